/- Texts of the proof of RootValid, packed by pack.py: part 11 of 21. -/
import Derived.Test.YtopjpgejefileaaGreatRvp10
namespace Go.Proofs.YtopjpgejefileaaGreat
open Go.IntKind (i64 u64 u32)
open Go.Ai
set_option maxRecDepth 100000
def Zae (xs:List Int) (d:Int) (k:Nat) (qs:List Int) (r:Int) (i:Int):Zk:=(.val (.sl xs.length (lm xs))::(.val (.int .u32 d)::(dds 4 (.own 1 k (lm qs)::(.val (.int .u64 r)::(.val (.int .i64 i)::(dds 34 [])))))))
theorem Zy0 (xs:List Int) (d:Int) (k:Nat) (qs:List Int) (r:Int) (i:Int)  (c1:(decide (i>=0))=true) (n1:0<=i/\i<(xs.length:Int)) (n2:¬ (u64.wrap d)=0) (n3:0<=i/\i<(k:Int)) (n4:qs.length=k):Za Yir Zls (Zae xs d k qs r i) .norm (Zae xs d k (qs.set (Int.toNat i) (u32.wrap (u64.wrap (Int.tdiv (u64.wrap ((BitVec.ofInt (IntKind.bits .u64) (u64.wrap (r*2^(min (Int.toNat 32) (IntKind.bits .u64)))) ||| BitVec.ofInt (IntKind.bits .u64) (u64.wrap (xs.getD (Int.toNat i) 0))).toNat)) (u64.wrap d))))) (Int.tmod (u64.wrap ((BitVec.ofInt (IntKind.bits .u64) (u64.wrap (r*2^(min (Int.toNat 32) (IntKind.bits .u64)))) ||| BitVec.ofInt (IntKind.bits .u64) (u64.wrap (xs.getD (Int.toNat i) 0))).toNat)) (u64.wrap d)) (i64.wrap (i-1))):=(Za.go Zs 400 [.b true,.v (.int .u32 (xs.getD (Int.toNat i) 0)),.l (lm (qs.set (Int.toNat i) (u32.wrap (u64.wrap (Int.tdiv (u64.wrap ((BitVec.ofInt (IntKind.bits .u64) (u64.wrap (r*2^(min (Int.toNat 32) (IntKind.bits .u64)))) ||| BitVec.ofInt (IntKind.bits .u64) (u64.wrap (xs.getD (Int.toNat i) 0))).toNat)) (u64.wrap d))))))] [0,1,6,7,8] (ac c1 (ac (show ¬ (32:Int)<0 from (by decide)) (ac n1 (ac (Zu n1) (ac n2 (ac n2 (ac n3 (ac (show X9 (lm qs) (Int.toNat i*1) [.int .u32 (u32.wrap (u64.wrap (Int.tdiv (u64.wrap ((BitVec.ofInt (IntKind.bits .u64) (u64.wrap (r*2^(min (Int.toNat 32) (IntKind.bits .u64)))) ||| BitVec.ofInt (IntKind.bits .u64) (u64.wrap (xs.getD (Int.toNat i) 0))).toNat)) (u64.wrap d))))]=some (lm (qs.set (Int.toNat i) (u32.wrap (u64.wrap (Int.tdiv (u64.wrap ((BitVec.ofInt (IntKind.bits .u64) (u64.wrap (r*2^(min (Int.toNat 32) (IntKind.bits .u64)))) ||| BitVec.ofInt (IntKind.bits .u64) (u64.wrap (xs.getD (Int.toNat i) 0))).toNat)) (u64.wrap d)))))) from (Jd n4 n3)) a0)))))))))
theorem Zyz (xs:List Int) (d:Int) (k:Nat) (qs:List Int) (r:Int) (i:Int)  (c1:(decide (i>=0))=false):Za Yir Zls (Zae xs d k qs r i) (.exit 0) (Zae xs d k qs r i):=(Za.go Zs 400 [.b false] [0,1,6,7,8] (ac c1 a0))
theorem Zxm (xs qs:List Int) (d r i:Int) (k:Nat) (n1:0<=(xs.length:Int)/\(xs.length:Int)<=1048576) (hl2:Za Yir (.loop Zls) ((.val (.sl xs.length (lm xs))::(.val (.int .u32 d)::(dds 4 (.own 1 (Int.toNat (xs.length:Int)) (Ju [.int .u32 0] (Int.toNat (xs.length:Int)))::(.val (.int .u64 0)::(.val (.int .i64 (i64.wrap ((xs.length:Int)-1)))::(dds 34 [])))))))) (.exit 0) (Zae xs d k qs r i)):Zc Yir 187 [.sl xs.length (lm xs),.int .u32 d] (.tup [.sl k (lm qs),.int .u32 (u32.wrap r)]):=Zc.of_bodyW (fn:=Zkp) (s:=(dds 1 (.val (.int .u32 d)::(dds 2 (.own 1 k (lm qs)::(.val (.int .u32 (u32.wrap r))::(dds 37 []))))))) (ex := .ret) rfl rfl (Za.asc (Za.asc (Za.csi (Za.seq (Za.go Zs 400 [] [0,1,6,7,8] (ac n1 a0)) (Za.seq (Za.block hl2) (Za.go Zs 400 [] [1,4,5] a0)))))) nofun rfl
def Zad (xs:List Int) (s:Int) (k:Nat) (os:List Int) (n:Int) (i:Int):Zk:=(dds 1 (.val (.int .i64 s)::(dds 3 (.own 1 k (lm os)::(dds 7 (.val (.sl xs.length (lm xs))::(.val (.int .i64 n)::(.val (.int .i64 i)::(dds 26 [])))))))))
theorem Zyy (xs:List Int) (s:Int) (k:Nat) (os:List Int) (n:Int) (i:Int)  (c1:(decide (i<n))=true) (n1:0<=i/\i<(xs.length:Int)) (n2:¬ (u64.wrap s)<0) (n3:0<=i/\i<(k:Int)) (n4:os.length=k) (n5:0<=(i64.wrap (i+1))/\(i64.wrap (i+1))<(k:Int)) (n6:(os.set (Int.toNat i) (u32.wrap ((BitVec.ofInt (IntKind.bits .u32) (os.getD (Int.toNat i) 0) ||| BitVec.ofInt (IntKind.bits .u32) (u32.wrap (u64.wrap ((u64.wrap (xs.getD (Int.toNat i) 0))*2^(min (Int.toNat (u64.wrap s)) (IntKind.bits .u64)))))).toNat))).length=k):Za Yir Zlr (Zad xs s k os n i) .norm (Zad xs s k ((os.set (Int.toNat i) (u32.wrap ((BitVec.ofInt (IntKind.bits .u32) (os.getD (Int.toNat i) 0) ||| BitVec.ofInt (IntKind.bits .u32) (u32.wrap (u64.wrap ((u64.wrap (xs.getD (Int.toNat i) 0))*2^(min (Int.toNat (u64.wrap s)) (IntKind.bits .u64)))))).toNat))).set (Int.toNat (i64.wrap (i+1))) (u32.wrap (Int.fdiv (u64.wrap ((u64.wrap (xs.getD (Int.toNat i) 0))*2^(min (Int.toNat (u64.wrap s)) (IntKind.bits .u64)))) (2^(min (Int.toNat 32) (IntKind.bits .u64)))))) n (i64.wrap (i+1))):=(Za.go Zs 400 [.b true,.v (.int .u32 (xs.getD (Int.toNat i) 0)),.v (.int .u32 (os.getD (Int.toNat i) 0)),.l (lm (os.set (Int.toNat i) (u32.wrap ((BitVec.ofInt (IntKind.bits .u32) (os.getD (Int.toNat i) 0) ||| BitVec.ofInt (IntKind.bits .u32) (u32.wrap (u64.wrap ((u64.wrap (xs.getD (Int.toNat i) 0))*2^(min (Int.toNat (u64.wrap s)) (IntKind.bits .u64)))))).toNat)))),.l (lm ((os.set (Int.toNat i) (u32.wrap ((BitVec.ofInt (IntKind.bits .u32) (os.getD (Int.toNat i) 0) ||| BitVec.ofInt (IntKind.bits .u32) (u32.wrap (u64.wrap ((u64.wrap (xs.getD (Int.toNat i) 0))*2^(min (Int.toNat (u64.wrap s)) (IntKind.bits .u64)))))).toNat))).set (Int.toNat (i64.wrap (i+1))) (u32.wrap (Int.fdiv (u64.wrap ((u64.wrap (xs.getD (Int.toNat i) 0))*2^(min (Int.toNat (u64.wrap s)) (IntKind.bits .u64)))) (2^(min (Int.toNat 32) (IntKind.bits .u64)))))))] [1,5,13,14,15] (ac c1 (ac n1 (ac (Zu n1) (ac n2 (ac n3 (ac (Qu n4 n3) (ac n3 (ac (show X9 (lm os) (Int.toNat i*1) [.int .u32 (u32.wrap ((BitVec.ofInt (IntKind.bits .u32) (os.getD (Int.toNat i) 0) ||| BitVec.ofInt (IntKind.bits .u32) (u32.wrap (u64.wrap ((u64.wrap (xs.getD (Int.toNat i) 0))*2^(min (Int.toNat (u64.wrap s)) (IntKind.bits .u64)))))).toNat))]=some (lm (os.set (Int.toNat i) (u32.wrap ((BitVec.ofInt (IntKind.bits .u32) (os.getD (Int.toNat i) 0) ||| BitVec.ofInt (IntKind.bits .u32) (u32.wrap (u64.wrap ((u64.wrap (xs.getD (Int.toNat i) 0))*2^(min (Int.toNat (u64.wrap s)) (IntKind.bits .u64)))))).toNat)))) from (Jd n4 n3)) (ac (show ¬ (32:Int)<0 from (by decide)) (ac n5 (ac (show X9 (lm (os.set (Int.toNat i) (u32.wrap ((BitVec.ofInt (IntKind.bits .u32) (os.getD (Int.toNat i) 0) ||| BitVec.ofInt (IntKind.bits .u32) (u32.wrap (u64.wrap ((u64.wrap (xs.getD (Int.toNat i) 0))*2^(min (Int.toNat (u64.wrap s)) (IntKind.bits .u64)))))).toNat)))) (Int.toNat (i64.wrap (i+1))*1) [.int .u32 (u32.wrap (Int.fdiv (u64.wrap ((u64.wrap (xs.getD (Int.toNat i) 0))*2^(min (Int.toNat (u64.wrap s)) (IntKind.bits .u64)))) (2^(min (Int.toNat 32) (IntKind.bits .u64)))))]=some (lm ((os.set (Int.toNat i) (u32.wrap ((BitVec.ofInt (IntKind.bits .u32) (os.getD (Int.toNat i) 0) ||| BitVec.ofInt (IntKind.bits .u32) (u32.wrap (u64.wrap ((u64.wrap (xs.getD (Int.toNat i) 0))*2^(min (Int.toNat (u64.wrap s)) (IntKind.bits .u64)))))).toNat))).set (Int.toNat (i64.wrap (i+1))) (u32.wrap (Int.fdiv (u64.wrap ((u64.wrap (xs.getD (Int.toNat i) 0))*2^(min (Int.toNat (u64.wrap s)) (IntKind.bits .u64)))) (2^(min (Int.toNat 32) (IntKind.bits .u64))))))) from (Jd n6 n5)) a0))))))))))))
theorem Zyx (xs:List Int) (s:Int) (k:Nat) (os:List Int) (n:Int) (i:Int)  (c1:(decide (i<n))=false):Za Yir Zlr (Zad xs s k os n i) (.exit 0) (Zad xs s k os n i):=(Za.go Zs 400 [.b false] [1,5,13,14,15] (ac c1 a0))
theorem Zxk (xs os:List Int) (s n i:Int) (k:Nat) (n1:0<=(i64.wrap ((xs.length:Int)+1))/\(i64.wrap ((xs.length:Int)+1))<=1048576) (hl2:Za Yir (.loop Zlr) ((dds 1 (.val (.int .i64 s)::(dds 3 (.own 1 (Int.toNat (i64.wrap ((xs.length:Int)+1))) (Ju [.int .u32 0] (Int.toNat (i64.wrap ((xs.length:Int)+1))))::(dds 7 (.val (.sl xs.length (lm xs))::(.val (.int .i64 (xs.length:Int))::(.val (.int .i64 0)::(dds 26 [])))))))))) (.exit 0) (Zad xs s k os n i)):Zc Yir 189 [.sl xs.length (lm xs),.int .i64 s] (.fresh 1 k (lm os)):=Zc.of_bodyW (fn:=Zkn) (s:=(dds 1 (.val (.int .i64 s)::(dds 2 (.own 1 k (lm os)::(dds 37 [])))))) (ex := .ret) rfl rfl (Za.asc (Za.csi (Za.seq (Za.go Zs 400 [] [1,5,13,14,15] (ac n1 a0)) (Za.seq (Za.block hl2) (Za.go Zs 400 [] [1,4] a0))))) nofun rfl
def X6 (k:Nat) (us:List Int) (vs:List Int) (n:Int) (t:Int) (t2:Int) (kq:Nat) (qs:List Int) (s:Int) (j:Int) (g:Int) (r:Int):Zk:=(dds 4 (.own 1 kq (lm qs)::(dds 3 (.val (.int .i64 s)::(.own 1 k (lm us)::(.val (.sl vs.length (lm vs))::(.val (.int .i64 n)::(dds 1 (.val (.int .u64 t)::(.val (.int .u64 t2)::(.val (.int .i64 j)::(dds 1 (.val (.int .u64 g)::(.val (.int .u64 r)::(dds 263 [])))))))))))))))
theorem Zq5 (k:Nat) (us:List Int) (vs:List Int) (n:Int) (t:Int) (t2:Int) (kq:Nat) (qs:List Int) (s:Int) (j:Int) (g:Int) (r:Int)  (c1:(decide (g>=4294967296))=true) (c2:(decide ((u64.wrap (r+t))>=4294967296))=true):Za Yir Ku (X6 k us vs n t t2 kq qs s j g r) (.exit 2) (X6 k us vs n t t2 kq qs s j (u64.wrap (g-1)) (u64.wrap (r+t))):=(Za.go Zs 400 [.b true,.b true,.b true] [4,8,9,10,11,13,14,15,17,18] (ac c1 (ac (show true=true from rfl) (ac c2 a0))))
theorem Zq4 (k:Nat) (us:List Int) (vs:List Int) (n:Int) (t:Int) (t2:Int) (kq:Nat) (qs:List Int) (s:Int) (j:Int) (g:Int) (r:Int)  (c1:(decide (g>=4294967296))=true) (c2:(decide ((u64.wrap (r+t))>=4294967296))=false):Za Yir Ku (X6 k us vs n t t2 kq qs s j g r) .norm (X6 k us vs n t t2 kq qs s j (u64.wrap (g-1)) (u64.wrap (r+t))):=(Za.go Zs 400 [.b true,.b true,.b false] [4,8,9,10,11,13,14,15,17,18] (ac c1 (ac (show true=true from rfl) (ac c2 a0))))
theorem Zq3 (k:Nat) (us:List Int) (vs:List Int) (n:Int) (t:Int) (t2:Int) (kq:Nat) (qs:List Int) (s:Int) (j:Int) (g:Int) (r:Int)  (c1:(decide (g>=4294967296))=false) (c2:(decide ((u64.wrap (g*t2))>(u64.wrap ((BitVec.ofInt (IntKind.bits .u64) (u64.wrap (r*2^(min (Int.toNat 32) (IntKind.bits .u64)))) ||| BitVec.ofInt (IntKind.bits .u64) (u64.wrap (us.getD (Int.toNat (i64.wrap ((i64.wrap (j+n))-2))) 0))).toNat))))=true) (c3:(decide ((u64.wrap (r+t))>=4294967296))=true) (n1:0<=(i64.wrap ((i64.wrap (j+n))-2))/\(i64.wrap ((i64.wrap (j+n))-2))<(k:Int)) (n2:us.length=k):Za Yir Ku (X6 k us vs n t t2 kq qs s j g r) (.exit 2) (X6 k us vs n t t2 kq qs s j (u64.wrap (g-1)) (u64.wrap (r+t))):=(Za.go Zs 400 [.b false,.v (.int .u32 (us.getD (Int.toNat (i64.wrap ((i64.wrap (j+n))-2))) 0)),.b true,.b true] [4,8,9,10,11,13,14,15,17,18] (ac c1 (ac (show ¬ (32:Int)<0 from (by decide)) (ac n1 (ac (Qu n2 n1) (ac c2 (ac c3 a0)))))))
theorem Zq2 (k:Nat) (us:List Int) (vs:List Int) (n:Int) (t:Int) (t2:Int) (kq:Nat) (qs:List Int) (s:Int) (j:Int) (g:Int) (r:Int)  (c1:(decide (g>=4294967296))=false) (c2:(decide ((u64.wrap (g*t2))>(u64.wrap ((BitVec.ofInt (IntKind.bits .u64) (u64.wrap (r*2^(min (Int.toNat 32) (IntKind.bits .u64)))) ||| BitVec.ofInt (IntKind.bits .u64) (u64.wrap (us.getD (Int.toNat (i64.wrap ((i64.wrap (j+n))-2))) 0))).toNat))))=true) (c3:(decide ((u64.wrap (r+t))>=4294967296))=false) (n1:0<=(i64.wrap ((i64.wrap (j+n))-2))/\(i64.wrap ((i64.wrap (j+n))-2))<(k:Int)) (n2:us.length=k):Za Yir Ku (X6 k us vs n t t2 kq qs s j g r) .norm (X6 k us vs n t t2 kq qs s j (u64.wrap (g-1)) (u64.wrap (r+t))):=(Za.go Zs 400 [.b false,.v (.int .u32 (us.getD (Int.toNat (i64.wrap ((i64.wrap (j+n))-2))) 0)),.b true,.b false] [4,8,9,10,11,13,14,15,17,18] (ac c1 (ac (show ¬ (32:Int)<0 from (by decide)) (ac n1 (ac (Qu n2 n1) (ac c2 (ac c3 a0)))))))
theorem Zco (k:Nat) (us:List Int) (vs:List Int) (n:Int) (t:Int) (t2:Int) (kq:Nat) (qs:List Int) (s:Int) (j:Int) (g:Int) (r:Int)  (c1:(decide (g>=4294967296))=false) (c2:(decide ((u64.wrap (g*t2))>(u64.wrap ((BitVec.ofInt (IntKind.bits .u64) (u64.wrap (r*2^(min (Int.toNat 32) (IntKind.bits .u64)))) ||| BitVec.ofInt (IntKind.bits .u64) (u64.wrap (us.getD (Int.toNat (i64.wrap ((i64.wrap (j+n))-2))) 0))).toNat))))=false) (n1:0<=(i64.wrap ((i64.wrap (j+n))-2))/\(i64.wrap ((i64.wrap (j+n))-2))<(k:Int)) (n2:us.length=k):Za Yir Ku (X6 k us vs n t t2 kq qs s j g r) (.exit 2) (X6 k us vs n t t2 kq qs s j g r):=(Za.go Zs 400 [.b false,.v (.int .u32 (us.getD (Int.toNat (i64.wrap ((i64.wrap (j+n))-2))) 0)),.b false] [4,8,9,10,11,13,14,15,17,18] (ac c1 (ac (show ¬ (32:Int)<0 from (by decide)) (ac n1 (ac (Qu n2 n1) (ac c2 a0))))))
def Gk (k:Nat) (us:List Int) (vs:List Int) (n:Int) (t:Int) (t2:Int) (kq:Nat) (qs:List Int) (s:Int) (j:Int) (g:Int) (b:Int) (c:Int) (i:Int):Zk:=(dds 4 (.own 1 kq (lm qs)::(dds 3 (.val (.int .i64 s)::(.own 1 k (lm us)::(.val (.sl vs.length (lm vs))::(.val (.int .i64 n)::(dds 1 (.val (.int .u64 t)::(.val (.int .u64 t2)::(.val (.int .i64 j)::(dds 1 (.val (.int .u64 g)::(dds 1 (.val (.int .u64 b)::(.val (.int .u64 c)::(.val (.int .i64 i)::(dds 260 []))))))))))))))))))
theorem Zq1 (k:Nat) (us:List Int) (vs:List Int) (n:Int) (t:Int) (t2:Int) (kq:Nat) (qs:List Int) (s:Int) (j:Int) (g:Int) (b:Int) (c:Int) (i:Int)  (c1:(decide (i<n))=true) (n1:0<=i/\i<(vs.length:Int)) (n2:0<=(i64.wrap (i+j))/\(i64.wrap (i+j))<(k:Int)) (n3:us.length=k):Za Yir Mi (Gk k us vs n t t2 kq qs s j g b c i) .norm (Gk k (us.set (Int.toNat (i64.wrap (i+j))) (u32.wrap (u64.wrap ((u64.wrap ((u64.wrap (us.getD (Int.toNat (i64.wrap (i+j))) 0))-(u64.wrap (u32.wrap (u64.wrap ((u64.wrap (g*(u64.wrap (vs.getD (Int.toNat i) 0))))+c))))))-b)))) vs n t t2 kq qs s j g (Int.fdiv (u64.wrap ((u64.wrap ((u64.wrap (us.getD (Int.toNat (i64.wrap (i+j))) 0))-(u64.wrap (u32.wrap (u64.wrap ((u64.wrap (g*(u64.wrap (vs.getD (Int.toNat i) 0))))+c))))))-b)) (2^(min (Int.toNat 63) (IntKind.bits .u64)))) (Int.fdiv (u64.wrap ((u64.wrap (g*(u64.wrap (vs.getD (Int.toNat i) 0))))+c)) (2^(min (Int.toNat 32) (IntKind.bits .u64)))) (i64.wrap (i+1))):=(Za.go Zs 400 [.b true,.v (.int .u32 (vs.getD (Int.toNat i) 0)),.v (.int .u32 (us.getD (Int.toNat (i64.wrap (i+j))) 0)),.l (lm (us.set (Int.toNat (i64.wrap (i+j))) (u32.wrap (u64.wrap ((u64.wrap ((u64.wrap (us.getD (Int.toNat (i64.wrap (i+j))) 0))-(u64.wrap (u32.wrap (u64.wrap ((u64.wrap (g*(u64.wrap (vs.getD (Int.toNat i) 0))))+c))))))-b)))))] [4,8,9,10,11,13,14,15,17,19,20,21] (ac c1 (ac n1 (ac (Zu n1) (ac (show ¬ (32:Int)<0 from (by decide)) (ac n2 (ac (Qu n3 n2) (ac (show ¬ (63:Int)<0 from (by decide)) (ac n2 (ac (show X9 (lm us) (Int.toNat (i64.wrap (i+j))*1) [.int .u32 (u32.wrap (u64.wrap ((u64.wrap ((u64.wrap (us.getD (Int.toNat (i64.wrap (i+j))) 0))-(u64.wrap (u32.wrap (u64.wrap ((u64.wrap (g*(u64.wrap (vs.getD (Int.toNat i) 0))))+c))))))-b)))]=some (lm (us.set (Int.toNat (i64.wrap (i+j))) (u32.wrap (u64.wrap ((u64.wrap ((u64.wrap (us.getD (Int.toNat (i64.wrap (i+j))) 0))-(u64.wrap (u32.wrap (u64.wrap ((u64.wrap (g*(u64.wrap (vs.getD (Int.toNat i) 0))))+c))))))-b))))) from (Jd n3 n2)) a0))))))))))
theorem Zq0 (k:Nat) (us:List Int) (vs:List Int) (n:Int) (t:Int) (t2:Int) (kq:Nat) (qs:List Int) (s:Int) (j:Int) (g:Int) (b:Int) (c:Int) (i:Int)  (c1:(decide (i<n))=false):Za Yir Mi (Gk k us vs n t t2 kq qs s j g b c i) (.exit 4) (Gk k us vs n t t2 kq qs s j g b c i):=(Za.go Zs 400 [.b false] [4,8,9,10,11,13,14,15,17,19,20,21] (ac c1 a0))
def Bo (k:Nat) (us:List Int) (vs:List Int) (n:Int) (t:Int) (t2:Int) (kq:Nat) (qs:List Int) (s:Int) (j:Int) (g:Int) (c:Int) (i:Int):Zk:=(dds 4 (.own 1 kq (lm qs)::(dds 3 (.val (.int .i64 s)::(.own 1 k (lm us)::(.val (.sl vs.length (lm vs))::(.val (.int .i64 n)::(dds 1 (.val (.int .u64 t)::(.val (.int .u64 t2)::(.val (.int .i64 j)::(dds 1 (.val (.int .u64 g)::(dds 7 (.val (.int .u64 c)::(.val (.int .i64 i)::(dds 255 [])))))))))))))))))
theorem Zq7 (k:Nat) (us:List Int) (vs:List Int) (n:Int) (t:Int) (t2:Int) (kq:Nat) (qs:List Int) (s:Int) (j:Int) (g:Int) (c:Int) (i:Int)  (c1:(decide (i<n))=true) (n1:0<=(i64.wrap (i+j))/\(i64.wrap (i+j))<(k:Int)) (n2:us.length=k) (n3:0<=i/\i<(vs.length:Int)):Za Yir R7 (Bo k us vs n t t2 kq qs s j g c i) .norm (Bo k (us.set (Int.toNat (i64.wrap (i+j))) (u32.wrap (u64.wrap ((u64.wrap ((u64.wrap (us.getD (Int.toNat (i64.wrap (i+j))) 0))+(u64.wrap (vs.getD (Int.toNat i) 0))))+c)))) vs n t t2 kq qs s j g (Int.fdiv (u64.wrap ((u64.wrap ((u64.wrap (us.getD (Int.toNat (i64.wrap (i+j))) 0))+(u64.wrap (vs.getD (Int.toNat i) 0))))+c)) (2^(min (Int.toNat 32) (IntKind.bits .u64)))) (i64.wrap (i+1))):=(Za.go Zs 400 [.b true,.v (.int .u32 (us.getD (Int.toNat (i64.wrap (i+j))) 0)),.v (.int .u32 (vs.getD (Int.toNat i) 0)),.l (lm (us.set (Int.toNat (i64.wrap (i+j))) (u32.wrap (u64.wrap ((u64.wrap ((u64.wrap (us.getD (Int.toNat (i64.wrap (i+j))) 0))+(u64.wrap (vs.getD (Int.toNat i) 0))))+c)))))] [4,8,9,10,11,13,14,15,17,25,26] (ac c1 (ac n1 (ac (Qu n2 n1) (ac n3 (ac (Zu n3) (ac (show ¬ (32:Int)<0 from (by decide)) (ac n1 (ac (show X9 (lm us) (Int.toNat (i64.wrap (i+j))*1) [.int .u32 (u32.wrap (u64.wrap ((u64.wrap ((u64.wrap (us.getD (Int.toNat (i64.wrap (i+j))) 0))+(u64.wrap (vs.getD (Int.toNat i) 0))))+c)))]=some (lm (us.set (Int.toNat (i64.wrap (i+j))) (u32.wrap (u64.wrap ((u64.wrap ((u64.wrap (us.getD (Int.toNat (i64.wrap (i+j))) 0))+(u64.wrap (vs.getD (Int.toNat i) 0))))+c))))) from (Jd n2 n1)) a0)))))))))
theorem Zq6 (k:Nat) (us:List Int) (vs:List Int) (n:Int) (t:Int) (t2:Int) (kq:Nat) (qs:List Int) (s:Int) (j:Int) (g:Int) (c:Int) (i:Int)  (c1:(decide (i<n))=false):Za Yir R7 (Bo k us vs n t t2 kq qs s j g c i) (.exit 6) (Bo k us vs n t t2 kq qs s j g c i):=(Za.go Zs 400 [.b false] [4,8,9,10,11,13,14,15,17,25,26] (ac c1 a0))
def H9 (k:Nat) (us:List Int) (vs:List Int) (n:Int) (t:Int) (t2:Int) (kq:Nat) (qs:List Int) (s:Int) (j:Int):Zk:=(dds 4 (.own 1 kq (lm qs)::(dds 3 (.val (.int .i64 s)::(.own 1 k (lm us)::(.val (.sl vs.length (lm vs))::(.val (.int .i64 n)::(dds 1 (.val (.int .u64 t)::(.val (.int .u64 t2)::(.val (.int .i64 j)::(dds 266 []))))))))))))
theorem Zy6 (k:Nat) (us:List Int) (vs:List Int) (n:Int) (t:Int) (t2:Int) (kq:Nat) (qs:List Int) (s:Int) (j:Int) (us1 us2:List Int) (g r b c cc:Int) (c1:(decide (j>=0))=true) (c2:((Int.fdiv (u64.wrap ((u64.wrap ((u64.wrap (us1.getD (Int.toNat (i64.wrap (j+n))) 0))-c))-b)) (2^(min (Int.toNat 63) (IntKind.bits .u64)))) != 0)=true) (n1:0<=(i64.wrap (j+n))/\(i64.wrap (j+n))<(k:Int)) (n2:us.length=k) (n3:0<=(i64.wrap ((i64.wrap (j+n))-1))/\(i64.wrap ((i64.wrap (j+n))-1))<(k:Int)) (n4:¬ t=0) (hl5:Za Yir (.loop Ku) (X6 k us vs n t t2 kq qs s j (u64.wrap (Int.tdiv (u64.wrap ((BitVec.ofInt (IntKind.bits .u64) (u64.wrap ((u64.wrap (us.getD (Int.toNat (i64.wrap (j+n))) 0))*2^(min (Int.toNat 32) (IntKind.bits .u64)))) ||| BitVec.ofInt (IntKind.bits .u64) (u64.wrap (us.getD (Int.toNat (i64.wrap ((i64.wrap (j+n))-1))) 0))).toNat)) t)) (Int.tmod (u64.wrap ((BitVec.ofInt (IntKind.bits .u64) (u64.wrap ((u64.wrap (us.getD (Int.toNat (i64.wrap (j+n))) 0))*2^(min (Int.toNat 32) (IntKind.bits .u64)))) ||| BitVec.ofInt (IntKind.bits .u64) (u64.wrap (us.getD (Int.toNat (i64.wrap ((i64.wrap (j+n))-1))) 0))).toNat)) t)) (.exit 2) (X6 k us vs n t t2 kq qs s j g r)) (hl6:Za Yir (.loop Mi) (Gk k us vs n t t2 kq qs s j g 0 0 0) (.exit 4) (Gk k us1 vs n t t2 kq qs s j g b c n)) (n7:us1.length=k) (hl8:Za Yir (.loop R7) (Bo k (us1.set (Int.toNat (i64.wrap (j+n))) (u32.wrap (u64.wrap ((u64.wrap ((u64.wrap (us1.getD (Int.toNat (i64.wrap (j+n))) 0))-c))-b)))) vs n t t2 kq qs s j (u64.wrap (g-1)) 0 0) (.exit 6) (Bo k us2 vs n t t2 kq qs s j (u64.wrap (g-1)) cc n)) (n9:us2.length=k) (n10:0<=j/\j<(kq:Int)) (n11:qs.length=kq):Za Yir Lq (H9 k us vs n t t2 kq qs s j) .norm (H9 k (us2.set (Int.toNat (i64.wrap (j+n))) (u32.wrap ((us2.getD (Int.toNat (i64.wrap (j+n))) 0)+(u32.wrap cc)))) vs n t t2 kq (qs.set (Int.toNat j) (u32.wrap (u64.wrap (g-1)))) s (i64.wrap (j-1))):=(Za.seq (Za.go (t:=(dds 4 (.own 1 kq (lm qs)::(dds 3 (vi s::(.own 1 k (lm us)::(vl vs::(vi n::(dds 1 (.val (.int .u64 t)::(.val (.int .u64 t2)::(vi j::(dds 266 []))))))))))))) Zs 400 [.b true] [4,8,9,10,11,13,14,15] (ac c1 a0)) (Za.seq (Za.block_norm (Za.asc (Za.seq (Za.go Zs 400 [.v (.int .u32 (us.getD (Int.toNat (i64.wrap (j+n))) 0)),.v (.int .u32 (us.getD (Int.toNat (i64.wrap ((i64.wrap (j+n))-1))) 0))] [4,8,9,10,11,13,14,15,17,18] (ac n1 (ac (Qu n2 n1) (ac (show ¬ (32:Int)<0 from (by decide)) (ac n3 (ac (Qu n2 n3) (ac n4 (ac n4 a0)))))))) (Za.seq (Za.block hl5) (Za.csi (Za.seq (Za.go Zs 400 [] [4,8,9,10,11,13,14,15,17,19,20,21] a0) (Za.seq (Za.block hl6) (Za.asc (Za.csi (Za.seq (Za.go (t:=(dds 4 (.own 1 kq (lm qs)::(dds 3 (vi s::(.own 1 k (lm (us1.set (Int.toNat (i64.wrap (j+n))) (u32.wrap (u64.wrap ((u64.wrap ((u64.wrap (us1.getD (Int.toNat (i64.wrap (j+n))) 0))-c))-b)))))::(vl vs::(vi n::(dds 1 (.val (.int .u64 t)::(.val (.int .u64 t2)::(vi j::(dds 1 (.val (.int .u64 g)::(dds 181 (.val (.bool ((Int.fdiv (u64.wrap ((u64.wrap ((u64.wrap (us1.getD (Int.toNat (i64.wrap (j+n))) 0))-c))-b)) (2^(min (Int.toNat 63) (IntKind.bits .u64)))) != 0))::(dds 82 []))))))))))))))))) Zs 400 [.v (.int .u32 (us1.getD (Int.toNat (i64.wrap (j+n))) 0)),.l (lm (us1.set (Int.toNat (i64.wrap (j+n))) (u32.wrap (u64.wrap ((u64.wrap ((u64.wrap (us1.getD (Int.toNat (i64.wrap (j+n))) 0))-c))-b)))))] [4,8,9,10,11,13,14,15,17,199] (ac n1 (ac (Qu n7 n1) (ac n1 (ac (show X9 (lm us1) (Int.toNat (i64.wrap (j+n))*1) [.int .u32 (u32.wrap (u64.wrap ((u64.wrap ((u64.wrap (us1.getD (Int.toNat (i64.wrap (j+n))) 0))-c))-b)))]=some (lm (us1.set (Int.toNat (i64.wrap (j+n))) (u32.wrap (u64.wrap ((u64.wrap ((u64.wrap (us1.getD (Int.toNat (i64.wrap (j+n))) 0))-c))-b))))) from (Jd n7 n1)) (ac (show ¬ (63:Int)<0 from (by decide)) a0)))))) (Za.seq (Za.cond_t (by rfl) c2 (Za.asc (Za.csi (Za.seq (Za.go Zs 400 [] [4,8,9,10,11,13,14,15,17,25,26] a0) (Za.seq (Za.block hl8) (Za.go (t:=(dds 4 (.own 1 kq (lm qs)::(dds 3 (vi s::(.own 1 k (lm (us2.set (Int.toNat (i64.wrap (j+n))) (u32.wrap ((us2.getD (Int.toNat (i64.wrap (j+n))) 0)+(u32.wrap cc)))))::(vl vs::(vi n::(dds 1 (.val (.int .u64 t)::(.val (.int .u64 t2)::(vi j::(dds 1 (.val (.int .u64 (u64.wrap (g-1)))::(dds 264 []))))))))))))))) Zs 400 [.v (.int .u32 (us2.getD (Int.toNat (i64.wrap (j+n))) 0)),.l (lm (us2.set (Int.toNat (i64.wrap (j+n))) (u32.wrap ((us2.getD (Int.toNat (i64.wrap (j+n))) 0)+(u32.wrap cc)))))] [4,8,9,10,11,13,14,15,17] (ac n1 (ac (Qu n9 n1) (ac n1 (ac (show X9 (lm us2) (Int.toNat (i64.wrap (j+n))*1) [.int .u32 (u32.wrap ((us2.getD (Int.toNat (i64.wrap (j+n))) 0)+(u32.wrap cc)))]=some (lm (us2.set (Int.toNat (i64.wrap (j+n))) (u32.wrap ((us2.getD (Int.toNat (i64.wrap (j+n))) 0)+(u32.wrap cc))))) from (Jd n9 n1)) a0)))))))))) (Za.go (t:=(dds 4 (.own 1 kq (lm (qs.set (Int.toNat j) (u32.wrap (u64.wrap (g-1)))))::(dds 3 (vi s::(.own 1 k (lm (us2.set (Int.toNat (i64.wrap (j+n))) (u32.wrap ((us2.getD (Int.toNat (i64.wrap (j+n))) 0)+(u32.wrap cc)))))::(vl vs::(vi n::(dds 1 (.val (.int .u64 t)::(.val (.int .u64 t2)::(vi j::(dds 266 []))))))))))))) Zs 400 [.l (lm (qs.set (Int.toNat j) (u32.wrap (u64.wrap (g-1)))))] [4,8,9,10,11,13,14,15] (ac n10 (ac (show X9 (lm qs) (Int.toNat j*1) [.int .u32 (u32.wrap (u64.wrap (g-1)))]=some (lm (qs.set (Int.toNat j) (u32.wrap (u64.wrap (g-1))))) from (Jd n11 n10)) a0)))))))))))))) (Za.go Zs 400 [] [4,8,9,10,11,13,14,15] a0)))
theorem Zy5 (k:Nat) (us:List Int) (vs:List Int) (n:Int) (t:Int) (t2:Int) (kq:Nat) (qs:List Int) (s:Int) (j:Int) (us1:List Int) (g r b c:Int) (c1:(decide (j>=0))=true) (c2:((Int.fdiv (u64.wrap ((u64.wrap ((u64.wrap (us1.getD (Int.toNat (i64.wrap (j+n))) 0))-c))-b)) (2^(min (Int.toNat 63) (IntKind.bits .u64)))) != 0)=false) (n1:0<=(i64.wrap (j+n))/\(i64.wrap (j+n))<(k:Int)) (n2:us.length=k) (n3:0<=(i64.wrap ((i64.wrap (j+n))-1))/\(i64.wrap ((i64.wrap (j+n))-1))<(k:Int)) (n4:¬ t=0) (hl5:Za Yir (.loop Ku) (X6 k us vs n t t2 kq qs s j (u64.wrap (Int.tdiv (u64.wrap ((BitVec.ofInt (IntKind.bits .u64) (u64.wrap ((u64.wrap (us.getD (Int.toNat (i64.wrap (j+n))) 0))*2^(min (Int.toNat 32) (IntKind.bits .u64)))) ||| BitVec.ofInt (IntKind.bits .u64) (u64.wrap (us.getD (Int.toNat (i64.wrap ((i64.wrap (j+n))-1))) 0))).toNat)) t)) (Int.tmod (u64.wrap ((BitVec.ofInt (IntKind.bits .u64) (u64.wrap ((u64.wrap (us.getD (Int.toNat (i64.wrap (j+n))) 0))*2^(min (Int.toNat 32) (IntKind.bits .u64)))) ||| BitVec.ofInt (IntKind.bits .u64) (u64.wrap (us.getD (Int.toNat (i64.wrap ((i64.wrap (j+n))-1))) 0))).toNat)) t)) (.exit 2) (X6 k us vs n t t2 kq qs s j g r)) (hl6:Za Yir (.loop Mi) (Gk k us vs n t t2 kq qs s j g 0 0 0) (.exit 4) (Gk k us1 vs n t t2 kq qs s j g b c n)) (n7:us1.length=k) (n8:0<=j/\j<(kq:Int)) (n9:qs.length=kq):Za Yir Lq (H9 k us vs n t t2 kq qs s j) .norm (H9 k (us1.set (Int.toNat (i64.wrap (j+n))) (u32.wrap (u64.wrap ((u64.wrap ((u64.wrap (us1.getD (Int.toNat (i64.wrap (j+n))) 0))-c))-b)))) vs n t t2 kq (qs.set (Int.toNat j) (u32.wrap g)) s (i64.wrap (j-1))):=(Za.seq (Za.go (t:=(dds 4 (.own 1 kq (lm qs)::(dds 3 (vi s::(.own 1 k (lm us)::(vl vs::(vi n::(dds 1 (.val (.int .u64 t)::(.val (.int .u64 t2)::(vi j::(dds 266 []))))))))))))) Zs 400 [.b true] [4,8,9,10,11,13,14,15] (ac c1 a0)) (Za.seq (Za.block_norm (Za.asc (Za.seq (Za.go Zs 400 [.v (.int .u32 (us.getD (Int.toNat (i64.wrap (j+n))) 0)),.v (.int .u32 (us.getD (Int.toNat (i64.wrap ((i64.wrap (j+n))-1))) 0))] [4,8,9,10,11,13,14,15,17,18] (ac n1 (ac (Qu n2 n1) (ac (show ¬ (32:Int)<0 from (by decide)) (ac n3 (ac (Qu n2 n3) (ac n4 (ac n4 a0)))))))) (Za.seq (Za.block hl5) (Za.csi (Za.seq (Za.go Zs 400 [] [4,8,9,10,11,13,14,15,17,19,20,21] a0) (Za.seq (Za.block hl6) (Za.asc (Za.csi (Za.seq (Za.go (t:=(dds 4 (.own 1 kq (lm qs)::(dds 3 (vi s::(.own 1 k (lm (us1.set (Int.toNat (i64.wrap (j+n))) (u32.wrap (u64.wrap ((u64.wrap ((u64.wrap (us1.getD (Int.toNat (i64.wrap (j+n))) 0))-c))-b)))))::(vl vs::(vi n::(dds 1 (.val (.int .u64 t)::(.val (.int .u64 t2)::(vi j::(dds 1 (.val (.int .u64 g)::(dds 181 (.val (.bool ((Int.fdiv (u64.wrap ((u64.wrap ((u64.wrap (us1.getD (Int.toNat (i64.wrap (j+n))) 0))-c))-b)) (2^(min (Int.toNat 63) (IntKind.bits .u64)))) != 0))::(dds 82 []))))))))))))))))) Zs 400 [.v (.int .u32 (us1.getD (Int.toNat (i64.wrap (j+n))) 0)),.l (lm (us1.set (Int.toNat (i64.wrap (j+n))) (u32.wrap (u64.wrap ((u64.wrap ((u64.wrap (us1.getD (Int.toNat (i64.wrap (j+n))) 0))-c))-b)))))] [4,8,9,10,11,13,14,15,17,199] (ac n1 (ac (Qu n7 n1) (ac n1 (ac (show X9 (lm us1) (Int.toNat (i64.wrap (j+n))*1) [.int .u32 (u32.wrap (u64.wrap ((u64.wrap ((u64.wrap (us1.getD (Int.toNat (i64.wrap (j+n))) 0))-c))-b)))]=some (lm (us1.set (Int.toNat (i64.wrap (j+n))) (u32.wrap (u64.wrap ((u64.wrap ((u64.wrap (us1.getD (Int.toNat (i64.wrap (j+n))) 0))-c))-b))))) from (Jd n7 n1)) (ac (show ¬ (63:Int)<0 from (by decide)) a0)))))) (Za.seq (Za.cond_f (by rfl) c2 (Za.go (t:=(dds 4 (.own 1 kq (lm qs)::(dds 3 (vi s::(.own 1 k (lm (us1.set (Int.toNat (i64.wrap (j+n))) (u32.wrap (u64.wrap ((u64.wrap ((u64.wrap (us1.getD (Int.toNat (i64.wrap (j+n))) 0))-c))-b)))))::(vl vs::(vi n::(dds 1 (.val (.int .u64 t)::(.val (.int .u64 t2)::(vi j::(dds 1 (.val (.int .u64 g)::(dds 264 []))))))))))))))) Zs 400 [] [4,8,9,10,11,13,14,15,17] a0)) (Za.go (t:=(dds 4 (.own 1 kq (lm (qs.set (Int.toNat j) (u32.wrap g)))::(dds 3 (vi s::(.own 1 k (lm (us1.set (Int.toNat (i64.wrap (j+n))) (u32.wrap (u64.wrap ((u64.wrap ((u64.wrap (us1.getD (Int.toNat (i64.wrap (j+n))) 0))-c))-b)))))::(vl vs::(vi n::(dds 1 (.val (.int .u64 t)::(.val (.int .u64 t2)::(vi j::(dds 266 []))))))))))))) Zs 400 [.l (lm (qs.set (Int.toNat j) (u32.wrap g)))] [4,8,9,10,11,13,14,15] (ac n8 (ac (show X9 (lm qs) (Int.toNat j*1) [.int .u32 (u32.wrap g)]=some (lm (qs.set (Int.toNat j) (u32.wrap g))) from (Jd n9 n8)) a0)))))))))))))) (Za.go Zs 400 [] [4,8,9,10,11,13,14,15] a0)))
theorem Zy4 (k:Nat) (us:List Int) (vs:List Int) (n:Int) (t:Int) (t2:Int) (kq:Nat) (qs:List Int) (s:Int) (j:Int)  (c1:(decide (j>=0))=false):Za Yir Lq (H9 k us vs n t t2 kq qs s j) (.exit 0) (H9 k us vs n t t2 kq qs s j):=(Za.seq_out (Za.go Zs 400 [.b false] [4,8,9,10,11,13,14,15] (ac c1 a0)) nofun)
def Hh (k:Nat) (us:List Int) (n:Int) (kq:Nat) (qs:List Int) (kr:Nat) (rs:List Int) (s:Int) (i:Int):Zk:=(dds 4 (.own 1 kq (lm qs)::(.own 1 kr (lm rs)::(dds 2 (.val (.int .i64 s)::(.own 1 k (lm us)::(dds 1 (.val (.int .i64 n)::(dds 16 (.val (.int .i64 i)::(dds 253 [])))))))))))
theorem Zqz (k:Nat) (us:List Int) (n:Int) (kq:Nat) (qs:List Int) (kr:Nat) (rs:List Int) (s:Int) (i:Int)  (c1:(decide (i<n))=true) (c2:(decide (s>0))=true) (n1:0<=i/\i<(k:Int)) (n2:us.length=k) (n3:¬ (u64.wrap s)<0) (n4:0<=i/\i<(kr:Int)) (n5:rs.length=kr) (n6:(rs.set (Int.toNat i) (Int.fdiv (us.getD (Int.toNat i) 0) (2^(min (Int.toNat (u64.wrap s)) (IntKind.bits .u32))))).length=kr) (n7:0<=(i64.wrap (i+1))/\(i64.wrap (i+1))<(k:Int)) (n8:¬ (u64.wrap (i64.wrap (32-s)))<0):Za Yir Nc (Hh k us n kq qs kr rs s i) .norm (Hh k us n kq qs kr ((rs.set (Int.toNat i) (Int.fdiv (us.getD (Int.toNat i) 0) (2^(min (Int.toNat (u64.wrap s)) (IntKind.bits .u32))))).set (Int.toNat i) (u32.wrap ((BitVec.ofInt (IntKind.bits .u32) ((rs.set (Int.toNat i) (Int.fdiv (us.getD (Int.toNat i) 0) (2^(min (Int.toNat (u64.wrap s)) (IntKind.bits .u32))))).getD (Int.toNat i) 0) ||| BitVec.ofInt (IntKind.bits .u32) (u32.wrap ((us.getD (Int.toNat (i64.wrap (i+1))) 0)*2^(min (Int.toNat (u64.wrap (i64.wrap (32-s)))) (IntKind.bits .u32))))).toNat))) s (i64.wrap (i+1))):=(Za.go Zs 400 [.b true,.v (.int .u32 (us.getD (Int.toNat i) 0)),.l (lm (rs.set (Int.toNat i) (Int.fdiv (us.getD (Int.toNat i) 0) (2^(min (Int.toNat (u64.wrap s)) (IntKind.bits .u32)))))),.b true,.v (.int .u32 ((rs.set (Int.toNat i) (Int.fdiv (us.getD (Int.toNat i) 0) (2^(min (Int.toNat (u64.wrap s)) (IntKind.bits .u32))))).getD (Int.toNat i) 0)),.v (.int .u32 (us.getD (Int.toNat (i64.wrap (i+1))) 0)),.l (lm ((rs.set (Int.toNat i) (Int.fdiv (us.getD (Int.toNat i) 0) (2^(min (Int.toNat (u64.wrap s)) (IntKind.bits .u32))))).set (Int.toNat i) (u32.wrap ((BitVec.ofInt (IntKind.bits .u32) ((rs.set (Int.toNat i) (Int.fdiv (us.getD (Int.toNat i) 0) (2^(min (Int.toNat (u64.wrap s)) (IntKind.bits .u32))))).getD (Int.toNat i) 0) ||| BitVec.ofInt (IntKind.bits .u32) (u32.wrap ((us.getD (Int.toNat (i64.wrap (i+1))) 0)*2^(min (Int.toNat (u64.wrap (i64.wrap (32-s)))) (IntKind.bits .u32))))).toNat))))] [4,5,8,9,11,28] (ac c1 (ac n1 (ac (Qu n2 n1) (ac n3 (ac n4 (ac (show X9 (lm rs) (Int.toNat i*1) [.int .u32 (Int.fdiv (us.getD (Int.toNat i) 0) (2^(min (Int.toNat (u64.wrap s)) (IntKind.bits .u32))))]=some (lm (rs.set (Int.toNat i) (Int.fdiv (us.getD (Int.toNat i) 0) (2^(min (Int.toNat (u64.wrap s)) (IntKind.bits .u32)))))) from (Jd n5 n4)) (ac c2 (ac n4 (ac (Qu n6 n4) (ac n7 (ac (Qu n2 n7) (ac n8 (ac n4 (ac (show X9 (lm (rs.set (Int.toNat i) (Int.fdiv (us.getD (Int.toNat i) 0) (2^(min (Int.toNat (u64.wrap s)) (IntKind.bits .u32)))))) (Int.toNat i*1) [.int .u32 (u32.wrap ((BitVec.ofInt (IntKind.bits .u32) ((rs.set (Int.toNat i) (Int.fdiv (us.getD (Int.toNat i) 0) (2^(min (Int.toNat (u64.wrap s)) (IntKind.bits .u32))))).getD (Int.toNat i) 0) ||| BitVec.ofInt (IntKind.bits .u32) (u32.wrap ((us.getD (Int.toNat (i64.wrap (i+1))) 0)*2^(min (Int.toNat (u64.wrap (i64.wrap (32-s)))) (IntKind.bits .u32))))).toNat))]=some (lm ((rs.set (Int.toNat i) (Int.fdiv (us.getD (Int.toNat i) 0) (2^(min (Int.toNat (u64.wrap s)) (IntKind.bits .u32))))).set (Int.toNat i) (u32.wrap ((BitVec.ofInt (IntKind.bits .u32) ((rs.set (Int.toNat i) (Int.fdiv (us.getD (Int.toNat i) 0) (2^(min (Int.toNat (u64.wrap s)) (IntKind.bits .u32))))).getD (Int.toNat i) 0) ||| BitVec.ofInt (IntKind.bits .u32) (u32.wrap ((us.getD (Int.toNat (i64.wrap (i+1))) 0)*2^(min (Int.toNat (u64.wrap (i64.wrap (32-s)))) (IntKind.bits .u32))))).toNat)))) from (Jd n6 n4)) a0)))))))))))))))
theorem Zqy (k:Nat) (us:List Int) (n:Int) (kq:Nat) (qs:List Int) (kr:Nat) (rs:List Int) (s:Int) (i:Int)  (c1:(decide (i<n))=true) (c2:(decide (s>0))=false) (n1:0<=i/\i<(k:Int)) (n2:us.length=k) (n3:¬ (u64.wrap s)<0) (n4:0<=i/\i<(kr:Int)) (n5:rs.length=kr):Za Yir Nc (Hh k us n kq qs kr rs s i) .norm (Hh k us n kq qs kr (rs.set (Int.toNat i) (Int.fdiv (us.getD (Int.toNat i) 0) (2^(min (Int.toNat (u64.wrap s)) (IntKind.bits .u32))))) s (i64.wrap (i+1))):=(Za.go Zs 400 [.b true,.v (.int .u32 (us.getD (Int.toNat i) 0)),.l (lm (rs.set (Int.toNat i) (Int.fdiv (us.getD (Int.toNat i) 0) (2^(min (Int.toNat (u64.wrap s)) (IntKind.bits .u32)))))),.b false] [4,5,8,9,11,28] (ac c1 (ac n1 (ac (Qu n2 n1) (ac n3 (ac n4 (ac (show X9 (lm rs) (Int.toNat i*1) [.int .u32 (Int.fdiv (us.getD (Int.toNat i) 0) (2^(min (Int.toNat (u64.wrap s)) (IntKind.bits .u32))))]=some (lm (rs.set (Int.toNat i) (Int.fdiv (us.getD (Int.toNat i) 0) (2^(min (Int.toNat (u64.wrap s)) (IntKind.bits .u32)))))) from (Jd n5 n4)) (ac c2 a0))))))))
theorem Zqx (k:Nat) (us:List Int) (n:Int) (kq:Nat) (qs:List Int) (kr:Nat) (rs:List Int) (s:Int) (i:Int)  (c1:(decide (i<n))=false):Za Yir Nc (Hh k us n kq qs kr rs s i) (.exit 8) (Hh k us n kq qs kr rs s i):=(Za.go Zs 400 [.b false] [4,5,8,9,11,28] (ac c1 a0))
theorem Zid (xs ys:List Int) (cm:Int) (c1:(decide (cm<0))=true) (n1:List.length (lm xs)=xs.length*1) (n2:xs.length<=35184372088832) (n3:Zc Yir 151 [.sl xs.length (lm xs),.sl ys.length (lm ys)] (.int .i64 cm)):Zc Yir 180 [.sl xs.length (lm xs),.sl ys.length (lm ys)] (.tup [.sl 0 [],.sl xs.length (lm xs)]):=Zc.of_bodyW (fn:=Zao) (s:=(dds 1 (.val (.sl ys.length (lm ys))::(dds 2 (.own 1 0 []::(.own 1 xs.length (lm xs)::(dds 276 []))))))) (ex := .ret) rfl rfl (Za.asc (Za.asc (Za.asc (Za.asc (Za.asc (Za.asc (Za.asc (Za.csi (Za.seq_out (Za.go Zs 400 [.r (.int .i64 cm),.b true] [1,4,5] (ac n3 (ac c1 (ac n1 (ac n2 a0))))) nofun))))))))) nofun rfl
theorem Zic (xs ys zs:List Int) (cm rr:Int) (c1:(decide (cm<0))=false) (c2:((ys.length:Int)==1)=true) (n1:Zc Yir 151 [.sl xs.length (lm xs),.sl ys.length (lm ys)] (.int .i64 cm)) (n2:0<=(0:Int)/\(0:Int)<(ys.length:Int)) (n3:Zc Yir 187 [.sl xs.length (lm xs),.int .u32 (ys.getD (Int.toNat 0) 0)] (.tup [.sl zs.length (lm zs),.int .u32 rr])):Zc Yir 180 [.sl xs.length (lm xs),.sl ys.length (lm ys)] (.tup [.sl zs.length (lm zs),.sl 1 [.int .u32 rr]]):=Zc.of_bodyW (fn:=Zao) (s:=(dds 1 (.val (.sl ys.length (lm ys))::(dds 2 (.val (.sl zs.length (lm zs))::(.own 1 1 [.int .u32 rr]::(dds 276 []))))))) (ex := .ret) rfl rfl (Za.asc (Za.asc (Za.asc (Za.asc (Za.asc (Za.asc (Za.asc (Za.csi (Za.seq_out (Za.go Zs 400 [.r (.int .i64 cm),.b false,.b true,.v (.int .u32 (ys.getD (Int.toNat 0) 0)),.r (.tup [.sl zs.length (lm zs),.int .u32 rr])] [1,4,5] (ac n1 (ac c1 (ac c2 (ac n2 (ac (Zu n2) (ac n3 a0))))))) nofun))))))))) nofun rfl
theorem Zib (xs ys us ws us1 vs qs rs:List Int) (cm s n t t2 j:Int) (k kq kr:Nat) (c1:(decide (cm<0))=false) (c2:((ys.length:Int)==1)=false) (n1:Zc Yir 151 [.sl xs.length (lm xs),.sl ys.length (lm ys)] (.int .i64 cm)) (n2:0<=(i64.wrap ((ys.length:Int)-1))/\(i64.wrap ((ys.length:Int)-1))<(ys.length:Int)) (n3:Zc Yir 188 [.int .u32 (ys.getD (Int.toNat (i64.wrap ((ys.length:Int)-1))) 0)] (.int .i64 s)) (n4:0<=(ys.length:Int)) (n5:0<=(Int.toNat (ys.length:Int))/\(Int.toNat (ys.length:Int))<=ws.length/\ws.length<=ws.length/\(false=true->true=true)) (n6:Zc Yir 189 [.sl xs.length (lm xs),.int .i64 s] (.fresh 1 us.length (lm us))) (n7:Zc Yir 189 [.sl ys.length (lm ys),.int .i64 s] (.fresh 1 ws.length (lm ws))) (n8:0<=(i64.wrap ((i64.wrap ((xs.length:Int)-(ys.length:Int)))+1))/\(i64.wrap ((i64.wrap ((xs.length:Int)-(ys.length:Int)))+1))<=1048576) (n9:0<=(i64.wrap ((ys.length:Int)-1))/\(i64.wrap ((ys.length:Int)-1))<((((Int.toNat (ys.length:Int))-0):Nat):Int)) (n10:0<=(i64.wrap ((ys.length:Int)-2))/\(i64.wrap ((ys.length:Int)-2))<((((Int.toNat (ys.length:Int))-0):Nat):Int)) (hl11:Za Yir (.loop Lq) ((dds 4 (.own 1 (Int.toNat (i64.wrap ((i64.wrap ((xs.length:Int)-(ys.length:Int)))+1))) (Ju [.int .u32 0] (Int.toNat (i64.wrap ((i64.wrap ((xs.length:Int)-(ys.length:Int)))+1))))::(dds 3 (.val (.int .i64 s)::(.own 1 us.length (lm us)::(.val (.sl ((Int.toNat (ys.length:Int))-0) (List.take (((Int.toNat (ys.length:Int))-0)*1) (List.drop (0*1) (lm ws))))::(.val (.int .i64 (ys.length:Int))::(dds 1 (.val (.int .u64 (u64.wrap (((ws.drop 0).take ((Int.toNat (ys.length:Int))-0)).getD (Int.toNat (i64.wrap ((ys.length:Int)-1))) 0)))::(.val (.int .u64 (u64.wrap (((ws.drop 0).take ((Int.toNat (ys.length:Int))-0)).getD (Int.toNat (i64.wrap ((ys.length:Int)-2))) 0)))::(.val (.int .i64 (i64.wrap ((xs.length:Int)-(ys.length:Int))))::(dds 266 []))))))))))))) (.exit 0) (H9 k us1 vs n t t2 kq qs s j)) (n12:0<=n/\n<=1048576) (hl13:Za Yir (.loop Nc) ((dds 4 (.own 1 kq (lm qs)::(.own 1 (Int.toNat n) (Ju [.int .u32 0] (Int.toNat n))::(dds 2 (.val (.int .i64 s)::(.own 1 k (lm us1)::(dds 1 (.val (.int .i64 n)::(dds 16 (.val (.int .i64 0)::(dds 253 [])))))))))))) (.exit 8) (Hh k us1 n kq qs kr rs s n)):Zc Yir 180 [.sl xs.length (lm xs),.sl ys.length (lm ys)] (.tup [.sl kq (lm qs),.sl kr (lm rs)]):=Zc.of_bodyW (fn:=Zao) (s:=(dds 4 (.own 1 kq (lm qs)::(.own 1 kr (lm rs)::(dds 276 []))))) (ex := .ret) rfl rfl (Za.asc (Za.asc (Za.asc (Za.asc (Za.asc (Za.asc (Za.asc (Za.csi (Za.seq (Za.go Zs 400 [.r (.int .i64 cm),.b false,.b false,.v (.int .u32 (ys.getD (Int.toNat (i64.wrap ((ys.length:Int)-1))) 0)),.r (.int .i64 s),.r (.fresh 1 us.length (lm us)),.r (.fresh 1 ws.length (lm ws)),.v (.int .u32 (((ws.drop 0).take ((Int.toNat (ys.length:Int))-0)).getD (Int.toNat (i64.wrap ((ys.length:Int)-1))) 0)),.v (.int .u32 (((ws.drop 0).take ((Int.toNat (ys.length:Int))-0)).getD (Int.toNat (i64.wrap ((ys.length:Int)-2))) 0))] [4,8,9,10,11,13,14,15] (ac n1 (ac c1 (ac c2 (ac n2 (ac (Zu n2) (ac n3 (ac n6 (ac n7 (ac n4 (ac n5 (ac n8 (ac n9 (ac (Ns n9 n5) (ac n10 (ac (Ns n10 n5) a0)))))))))))))))) (Za.seq (Za.block hl11) (Za.csi (Za.seq (Za.go Zs 400 [] [4,5,8,9,11,28] (ac n12 a0)) (Za.seq (Za.block hl13) (Za.go Zs 400 [] [4,5] a0)))))))))))))) nofun rfl
def TQA:J8:=TWB
theorem Zma:Q9 Yir TQA:=Zs
end Go.Proofs.YtopjpgejefileaaGreat

namespace Go.Proofs.YtopjpgejefileaaGreat
open Go.IntKind (i64 u64 u32)
open Go.Ai
set_option maxRecDepth 100000
theorem Zqe {xs:List Int} {d:Int} (hx:U32 xs) (hd:0<d/\d<4294967296) (hN:xs.length<=1048576):∀ (i:Nat) (qs:List Int) (r:Int),i<=xs.length->qs.length=xs.length->U32 qs->0<=r/\r<d->(∀ t,t<i->qs.getD t 0=0) ->
  ∃ qs' r',Za Yir (.loop Zls) (Zae xs d xs.length qs r ((i:Int)-1)) (.exit 0) (Zae xs d xs.length qs' r' (-1))/\qs'.length=xs.length/\U32 qs'/\(0<=r'/\r'<d)/\d*Zj qs'+r'=d*Zj qs+4294967296^i*r+Zj (xs.take i):=by
 intro i;induction i with
 | zero =>
  intro qs r _ hl hu hr _;refine⟨qs,r,Za.loop_out (Zyz xs d xs.length qs r _ (by simp)) nofun,hl,hu,hr,by simp[Zj]⟩
 | succ i ih =>
  intro qs r hi hl hu hr hz;have ei:(((i+1:Nat):Int)-1)=(i:Nat):=by omega
  have ej:i64.wrap ((i:Int)-1)=(i:Int)-1:=w64 (by omega) (by omega);have hxi:=Zt hx i;have hk:=Zy0 xs d xs.length qs r (i:Nat) (by simp) (by omega) (by rw[Ue (by omega)];omega) (by omega) hl;rw[ej,Int.toNat_natCast,Mo (by omega) hxi,Ue (n:=d) (by omega)] at hk;have hv0:0<=r*4294967296+xs.getD i 0:=by omega
  rw[Int.tdiv_eq_ediv_of_nonneg hv0,Int.tmod_eq_emod_of_nonneg hv0] at hk;generalize hv:r*4294967296+xs.getD i 0=v at *
  have hm:=Int.mul_ediv_add_emod v d;have hm0:=Int.emod_nonneg v (show d ≠ 0 by omega);have hm1:=Int.emod_lt_of_pos v hd.1;have hq0:0<=v / d:=Int.ediv_nonneg hv0 (by omega);have hq1:v / d<4294967296:=by
   apply Int.ediv_lt_of_lt_mul hd.1;have:=Int.mul_le_mul_of_nonneg_right (show r<=d-1 by omega) (show (0:Int)<=4294967296 by omega);have:(d-1)*4294967296=4294967296*d-4294967296:=by omega
   omega
  rw[Ue (n:=v / d) (by omega),w32 ⟨hq0,hq1⟩] at hk;obtain⟨qs',r',g1,g2,g3,g4,g5⟩:=ih (qs.set i (v / d)) (v % d) (by omega) (by simpa using hl) (Q4 hu ⟨hq0,hq1⟩) ⟨hm0,hm1⟩ (fun t ht=>by rw[Qq (by omega)];exact hz t (by omega));rw[ei];refine⟨qs',r',Za.loop hk g1,g2,g3,g4,?_⟩;rw[g5,Jy _ _ _ (by omega),hz i (by omega),Jq xs i (by omega),Int.pow_succ];generalize (4294967296:Int)^i=P at *
  have e2:xs.getD i 0=d*(v / d)+v % d-r*4294967296:=by omega
  rw[e2];grind
theorem L9 {xs:List Int} {d:Int} (hx:U32 xs) (hd:0<d/\d<4294967296) (hN:xs.length<=1048576):∃ qs r,(qs:List Int).length=xs.length/\U32 qs/\(0<=r/\r<d)/\d*Zj qs+r=Zj xs/\Zc Yir 187 [.sl xs.length (lm xs),.int .u32 d] (.tup [.sl qs.length (lm qs),.int .u32 r]):=by
 obtain⟨qs,r,h1,h2,h3,h4,h5⟩:=Zqe hx hd hN xs.length (List.replicate xs.length 0) 0 (Nat.le_refl _) (by simp) (Xk _) (by omega) (fun t _=>Jn _ _);refine⟨qs,r,h2,h3,h4,?_,?_⟩
 ·rw[h5,Xe,List.take_length];omega
 ·have h:=Zxm xs qs d r (-1) xs.length (by omega) (by
   rw[Int.toNat_natCast,Xz,w64 (by omega) (by omega)];exact h1)
  rw[w32 (n:=r) (by omega)] at h;rw[h2];exact h
theorem Zqd {xs:List Int} {s:Nat} (hx:U32 xs) (hs:s<32) (hN:xs.length<1048576):∀ (r i:Nat) (os:List Int),i+r=xs.length->os.length=xs.length+1->U32 os->Zj os=2^s*Zj (xs.take i)->os.getD i 0<2^s->(∀ t,i<t->os.getD t 0=0) ->
  ∃ os',Za Yir (.loop Zlr) (Zad xs (s:Nat) (xs.length+1) os (xs.length:Nat) (i:Nat)) (.exit 0) (Zad xs (s:Nat) (xs.length+1) os' (xs.length:Nat) (xs.length:Nat))/\os'.length=xs.length+1/\U32 os'/\Zj os'=2^s*Zj xs:=by
 intro r;induction r with
 | zero =>
  intro i os hi hl hu hv _ _;have:i=xs.length:=by omega
  subst this;exact⟨os,Za.loop_out (Zyx xs _ _ os _ _ (by simp)) nofun,hl,hu,by rw[hv,List.take_length]⟩
 | succ r ih =>
  intro i os hi hl hu hv hc hz;have ei:i64.wrap ((i:Int)+1)=((i+1:Nat):Int):=by rw[w64 (by omega) (by omega)];omega
  have hxi:=Zt hx i;have hoi:=Zt hu i;obtain⟨p0,p1,p2,q,q0,q1⟩:=L0 hxi hs;have es:(2:Int)^(min (Int.toNat (u64.wrap (s:Int))) (IntKind.bits .u64))=2^s:=by
   rw[Ue (by omega),Int.toNat_natCast];congr 1;show min s 64=s;omega
  have hk:=Zyy xs (s:Nat) (xs.length+1) os (xs.length:Nat) (i:Nat) (by simp;omega) (by omega) (by rw[Ue (by omega)];omega) (by omega) hl (by rw[ei];omega) (by simpa using hl);rw[ei,Int.toNat_natCast,Int.toNat_natCast,Ue (n:=xs.getD i 0) (by omega),es,Ue ⟨p0,p1⟩,Z46,Wj (xs.getD i 0*2^s),q1] at hk;have hqs:q*2^s<4294967296:=by rw[<- q1];omega
  rw[or32 q0 hqs (by omega) ⟨hoi.1,hc⟩] at hk;have hhi:0<=xs.getD i 0*2^s / 4294967296:=by omega
  have hp2:(2:Int)^s<=4294967296:=by have:=Vp (show s<=32 by omega);rwa [show (2:Int)^32=4294967296 by decide] at this
  rw[w32 ⟨hhi,by omega⟩] at hk;have hsum:0<=q*2^s+os.getD i 0/\q*2^s+os.getD i 0<4294967296:=by
   have hq2:0<=q*2^s:=by rw[<- q1];omega
   refine⟨by omega,?_⟩;have e:(4294967296:Int)=2^(32-s)*2^s:=by
    rw[<- Int.pow_add,show 32-s+s=32 by omega];decide
   rw[e] at hqs |-;have hp:=Qe s;have:=Int.lt_of_mul_lt_mul_right hqs (by omega);have:=Int.mul_le_mul_of_nonneg_right (show q+1<=2^(32-s) by omega) (show (0:Int)<=2^s by omega);rw[Int.add_mul,Int.one_mul] at this;omega
  obtain⟨os',g1,g2,g3,g4⟩:=ih (i+1) ((os.set i (q*2^s+os.getD i 0)).set (i+1) (xs.getD i 0*2^s / 4294967296)) (by omega) (by simpa using hl) (Q4 (Q4 hu hsum) ⟨hhi,by omega⟩) (by
    rw[Jy _ _ _ (by simp;omega),Jy _ _ _ (by omega),Qq (by omega),hz (i+1) (by omega),hv,Jq xs i (by omega),Int.pow_succ];have e3:xs.getD i 0*2^s=4294967296*(xs.getD i 0*2^s / 4294967296)+q*2^s:=by omega
    generalize (4294967296:Int)^i=P at *
    generalize xs.getD i 0*2^s / 4294967296=H at *
    generalize os.getD i 0=o at *
    generalize q*2^s=Q at *
    have e4:(2:Int)^s*(Zj (xs.take i)+P*xs.getD i 0)=2^s*Zj (xs.take i)+P*(xs.getD i 0*2^s):=by grind
    rw[e4,e3];grind) (by
    rw[show ((os.set i (q*2^s+os.getD i 0)).set (i+1) (xs.getD i 0*2^s / 4294967296)).getD (i+1) 0=xs.getD i 0*2^s / 4294967296 by simp[List.getD_eq_getElem?_getD,show i+1<os.length by omega]];exact p2) (fun t ht=>by rw[Qq (by omega),Qq (by omega)];exact hz t (by omega))
  exact⟨os',Za.loop hk g1,g2,g3,g4⟩
theorem A2 {xs:List Int} {s:Nat} (hx:U32 xs) (hs:s<32) (hN:xs.length<1048576):∃ os,(os:List Int).length=xs.length+1/\U32 os/\Zj os=2^s*Zj xs/\Zc Yir 189 [.sl xs.length (lm xs),.int .i64 (s:Nat)] (.fresh 1 os.length (lm os)):=by
 obtain⟨os,h1,h2,h3,h4⟩:=Zqd hx hs hN xs.length 0 (List.replicate (xs.length+1) 0) (by omega) (by simp) (Xk _) (by rw[Xe];simp[Zj]) (by rw[Jn];exact Qe s) (fun t _=>Jn _ _);refine⟨os,h2,h3,h4,?_⟩;have e:i64.wrap ((xs.length:Int)+1)=((xs.length+1:Nat):Int):=by rw[w64 (by omega) (by omega)];omega
 have h:=Zxk xs os (s:Nat) (xs.length:Nat) (xs.length:Nat) (xs.length+1) (by rw[e];omega) (by rw[e,Int.toNat_natCast,Xz];exact h1);rw[h2];exact h
section
variable {k:Nat} {us vs:List Int} {kq:Nat} {qs:List Int} {s:Int} {j m:Nat}
theorem Zjz (hl:us.length=k) (hk:k<=1048577) (hj:j+m+2<k) (h:Dig m (Zj vs) (Zj (us.drop j)) (vs.getD (m+1) 0) (vs.getD m 0) (us.getD (j+m+2) 0) (us.getD (j+m+1) 0) (us.getD (j+m) 0)):∀ (f:Nat) (g r:Int),g.toNat<=f ->
  DigI (Zj vs) (Zj (us.drop j)) (vs.getD (m+1) 0) (us.getD (j+m+2) 0*4294967296+us.getD (j+m+1) 0) g r->r<4294967296 ->
  ∃ g' r',Za Yir (.loop Ku) (X6 k us vs ((m+2:Nat):Int) (vs.getD (m+1) 0) (vs.getD m 0) kq qs s (j:Nat) g r) (.exit 2) (X6 k us vs ((m+2:Nat):Int) (vs.getD (m+1) 0) (vs.getD m 0) kq qs s (j:Nat) g' r') /\
   (0<=g'/\g'<4294967296)/\Zj (us.drop j)<(g'+1)*Zj vs/\g'*Zj vs<Zj (us.drop j)+Zj vs:=by
 have ht:=h.htop;have hnx:=h.hnxt;have hz:=h.hz;have e1:i64.wrap (i64.wrap ((j:Int)+((m+2:Nat):Int))-2)=((j+m:Nat):Int):=by
  rw[w64 (n:=(j:Int)+((m+2:Nat):Int)) (by omega) (by omega),w64 (by omega) (by omega)];omega
 intro f;induction f with
 | zero =>
  intro g r hf i hr;have hg:g=0:=by have:=i.g0;omega
  subst hg;have c2:¬ (r*4294967296+us.getD (j+m) 0<0*vs.getD m 0):=by have:=i.r0;omega
  have k5:=Zco k us vs ((m+2:Nat):Int) (vs.getD (m+1) 0) (vs.getD m 0) kq qs s (j:Nat) 0 r (by simp) (by
   rw[e1,Int.toNat_natCast,Mo ⟨i.r0,hr⟩ hz,Ue (n:=0*vs.getD m 0) (by omega),decide_eq_false_iff_not];omega) (by rw[e1];omega) hl
  exact⟨0,r,Za.loop_out k5 nofun,by omega,i.up,h.out i (by omega) (Or.inr (by omega))⟩
 | succ f ih =>
  intro g r hf i hr;have hg1:=i.gle;have hg0:=i.g0;have hr0:=i.r0;have hgn:0<=g*vs.getD m 0/\g*vs.getD m 0<18446744073709551616:=by
   have a:=Int.mul_nonneg hg0 hnx.1;have b:=Int.mul_le_mul hg1 (show vs.getD m 0<=4294967295 by omega) hnx.1 (by omega);omega
  have er:u64.wrap (r+vs.getD (m+1) 0)=r+vs.getD (m+1) 0:=Ue (by omega);have ecmp:(decide (u64.wrap (g*vs.getD m 0)>u64.wrap ((BitVec.ofInt (IntKind.bits .u64) (u64.wrap (r*2^(min (Int.toNat 32) (IntKind.bits .u64)))) ||| BitVec.ofInt (IntKind.bits .u64) (u64.wrap (us.getD (Int.toNat (i64.wrap (i64.wrap ((j:Int)+((m+2:Nat):Int))-2))) 0))).toNat)):Bool)=decide (r*4294967296+us.getD (j+m) 0<g*vs.getD m 0):=by
   rw[e1,Int.toNat_natCast,Mo ⟨hr0,hr⟩ hz,Ue hgn]
  by_cases hc:4294967296<=g\/r*4294967296+us.getD (j+m) 0<g*vs.getD m 0
  ·have i2:=h.step i hc;have hg2:=i2.g0;have eg:u64.wrap (g-1)=g-1:=Ue (by omega);by_cases hbig:4294967296<=r+vs.getD (m+1) 0
   ·have hgs:=h.small_g i2 hbig;have hrun:Za Yir Ku (X6 k us vs ((m+2:Nat):Int) (vs.getD (m+1) 0) (vs.getD m 0) kq qs s (j:Nat) g r) (.exit 2) (X6 k us vs ((m+2:Nat):Int) (vs.getD (m+1) 0) (vs.getD m 0) kq qs s (j:Nat) (u64.wrap (g-1)) (u64.wrap (r+vs.getD (m+1) 0))):=by
     by_cases hg:4294967296<=g
     ·exact Zq5 k us vs _ _ _ kq qs s _ g r (by simpa using hg) (by rw[er];simpa using hbig)
     ·exact Zq3 k us vs _ _ _ kq qs s _ g r (by simp;omega) (by rw[ecmp,decide_eq_true_eq];omega) (by rw[er];simpa using hbig) (by rw[e1];omega) hl
    rw[eg,er] at hrun;exact⟨g-1,_,Za.loop_out hrun nofun,⟨hg2,hgs⟩,i2.up,h.out i2 hgs (Or.inl hbig)⟩
   ·have hrun:Za Yir Ku (X6 k us vs ((m+2:Nat):Int) (vs.getD (m+1) 0) (vs.getD m 0) kq qs s (j:Nat) g r) .norm (X6 k us vs ((m+2:Nat):Int) (vs.getD (m+1) 0) (vs.getD m 0) kq qs s (j:Nat) (u64.wrap (g-1)) (u64.wrap (r+vs.getD (m+1) 0))):=by
     by_cases hg:4294967296<=g
     ·exact Zq4 k us vs _ _ _ kq qs s _ g r (by simpa using hg) (by rw[er,decide_eq_false_iff_not];omega)
     ·exact Zq2 k us vs _ _ _ kq qs s _ g r (by simp;omega) (by rw[ecmp,decide_eq_true_eq];omega) (by rw[er,decide_eq_false_iff_not];omega) (by rw[e1];omega) hl
    rw[eg,er] at hrun;obtain⟨g',r',a1,a2⟩:=ih (g-1) (r+vs.getD (m+1) 0) (by omega) i2 (by omega);exact⟨g',r',Za.loop hrun a1,a2⟩
  ·have k5:=Zco k us vs ((m+2:Nat):Int) (vs.getD (m+1) 0) (vs.getD m 0) kq qs s (j:Nat) g r (by simp;omega) (by rw[ecmp,decide_eq_false_iff_not];omega) (by rw[e1];omega) hl;exact⟨g,r,Za.loop_out k5 nofun,by omega,i.up,h.out i (by omega) (Or.inr (by omega))⟩
end
section
variable {k:Nat} {vs:List Int} {t t2:Int} {kq:Nat} {qs:List Int} {s:Int} {j:Nat} {g:Int}
theorem Zjy (hv:U32 vs) (hk:k<=1048577) (hg:0<=g/\g<4294967296) (hj:j+vs.length<=k):∀ (r i:Nat) (us:List Int) (b c:Int),r+i=vs.length->us.length=k->U32 us->0<=b/\b<=1->0<=c/\c<4294967296 ->
  Za Yir (.loop Mi) (Gk k us vs (vs.length:Nat) t t2 kq qs s (j:Nat) g b c (i:Nat)) (.exit 4) (Gk k (F9 g vs j r i us b c).1 vs (vs.length:Nat) t t2 kq qs s (j:Nat) g (F9 g vs j r i us b c).2.1 (F9 g vs j r i us b c).2.2 (vs.length:Nat)):=by
 intro r;induction r with
 | zero =>
  intro i us b c hi _ _ _ _;have:i=vs.length:=by omega
  subst this;exact Za.loop_out (Zq0 k us vs _ t t2 kq qs s _ g b c _ (by simp)) nofun
 | succ r ih =>
  intro i us b c hi hl hu hb hc;have ei:i64.wrap ((i:Int)+1)=((i+1:Nat):Int):=by rw[w64 (by omega) (by omega)];omega
  have eij:i64.wrap ((i:Int)+(j:Int))=((i+j:Nat):Int):=by rw[w64 (by omega) (by omega)];omega
  have hvi:=Zt hv i;have hui:=Zt hu (i+j);have hw:=Tk hg hvi hc;have hgv:=Int.mul_nonneg hg.1 hvi.1;have h1:=Zq1 k us vs (vs.length:Nat) t t2 kq qs s (j:Nat) g b c (i:Nat) (by simp;omega) (by omega) (by rw[eij];omega) hl;rw[eij,ei,Int.toNat_natCast,Int.toNat_natCast,Ue (n:=vs.getD i 0) (by omega),Ue (n:=us.getD (i+j) 0) (by omega),Ue (n:=g*vs.getD i 0) (by omega),Ue hw,Z46,fd63,Wj (g*vs.getD i 0+c)] at h1;generalize hp:g*vs.getD i 0+c=p at *
  rw[Ue (n:=p % 4294967296) (by omega),Qw,Qw] at h1;have hstep:F9 g vs j (r+1) i us b c=F9 g vs j r (i+1) (us.set (i+j) ((us.getD (i+j) 0-p % 4294967296-b) % 4294967296)) (if us.getD (i+j) 0-p % 4294967296-b<0 then 1 else 0) (p / 4294967296):=by rw[F9,hp]
  generalize hd:us.getD (i+j) 0-p % 4294967296-b=d at *
  have e1:u32.wrap (((us.getD (i+j) 0-p % 4294967296) % 18446744073709551616-b) % 18446744073709551616)=d % 4294967296:=by rw[Wj];omega
  have e2:((us.getD (i+j) 0-p % 4294967296) % 18446744073709551616-b) % 18446744073709551616 / 9223372036854775808=(if d<0 then 1 else 0):=by split <;> omega
  rw[e1,e2] at h1;rw[hstep];exact Za.loop h1 (ih (i+1) _ _ _ (by omega) (by simpa using hl) (Q4 hu (by omega)) (by split <;> omega) (by omega))
theorem Zj0 (hv:U32 vs) (hk:k<=1048577) (hj:j+vs.length<=k):∀ (r i:Nat) (us:List Int) (c:Int),r+i=vs.length->us.length=k->U32 us->0<=c/\c<=1 ->
  Za Yir (.loop R7) (Bo k us vs (vs.length:Nat) t t2 kq qs s (j:Nat) g c (i:Nat)) (.exit 6) (Bo k (Mh vs j r i us c).1 vs (vs.length:Nat) t t2 kq qs s (j:Nat) g (Mh vs j r i us c).2 (vs.length:Nat)):=by
 intro r;induction r with
 | zero =>
  intro i us c hi _ _ _;have:i=vs.length:=by omega
  subst this;exact Za.loop_out (Zq6 k us vs _ t t2 kq qs s _ g c _ (by simp)) nofun
 | succ r ih =>
  intro i us c hi hl hu hc;have ei:i64.wrap ((i:Int)+1)=((i+1:Nat):Int):=by rw[w64 (by omega) (by omega)];omega
  have eij:i64.wrap ((i:Int)+(j:Int))=((i+j:Nat):Int):=by rw[w64 (by omega) (by omega)];omega
  have hvi:=Zt hv i;have hui:=Zt hu (i+j);have h1:=Zq7 k us vs (vs.length:Nat) t t2 kq qs s (j:Nat) g c (i:Nat) (by simp;omega) (by rw[eij];omega) hl (by omega);rw[eij,ei,Int.toNat_natCast,Int.toNat_natCast,Ue (n:=vs.getD i 0) (by omega),Ue (n:=us.getD (i+j) 0) (by omega),Ue (n:=us.getD (i+j) 0+vs.getD i 0) (by omega),Ue (n:=us.getD (i+j) 0+vs.getD i 0+c) (by omega),Z46,Wj] at h1;exact Za.loop h1 (ih (i+1) _ _ (by omega) (by simpa using hl) (Q4 hu (by omega)) (by omega))
end
theorem dsign {X c b:Int} (hX:0<=X/\X<4294967296) (hc:0<=c/\c<4294967296) (hb:0<=b/\b<=1) :
  Int.fdiv (u64.wrap (u64.wrap (u64.wrap X-c)-b)) (2^(min (Int.toNat 63) (IntKind.bits .u64)))=(if X-c-b<0 then 1 else 0)/\u32.wrap (u64.wrap (u64.wrap (u64.wrap X-c)-b))=(X-c-b) % 4294967296:=by
 rw[fd63,Ue (n:=X) (by omega),Qw,Qw,Wj];refine⟨?_,by omega⟩;split <;> omega
section
variable {vs:List Int} {m:Nat} {k kq:Nat} {s:Int}
theorem Zqf (hv:U32 vs) (hm:vs.length=m+2) (ht:2147483648<=vs.getD (m+1) 0) (hk:k=kq+vs.length) (hkb:k<=1048577):∀ (i:Nat) (us qs:List Int),i<=kq->us.length=k->U32 us->qs.length=kq->U32 qs->(∀ t,t<i->qs.getD t 0=0)->Zj (us.drop i)<Zj vs ->
  ∃ us' qs',Za Yir (.loop Lq) (H9 k us vs (vs.length:Nat) (vs.getD (m+1) 0) (vs.getD m 0) kq qs s ((i:Int)-1)) (.exit 0) (H9 k us' vs (vs.length:Nat) (vs.getD (m+1) 0) (vs.getD m 0) kq qs' s (-1)) /\
   us'.length=k/\U32 us'/\qs'.length=kq/\U32 qs'/\Zj us'<Zj vs/\Zj us=Zj vs*(Zj qs'-Zj qs)+Zj us':=by
 intro i;induction i with
 | zero =>
  intro us qs _ h1 h2 h3 h4 _ h6;exact⟨us,qs,Za.loop_out (Zy4 k us vs _ _ _ kq qs s _ (by simp)) nofun,h1,h2,h3,h4,h6,by rw[Int.sub_self,Int.mul_zero,Int.zero_add]⟩
 | succ i ih =>
  intro us qs hi h1 h2 h3 h4 h5 h6;have ei:(((i+1:Nat):Int)-1)=(i:Nat):=by omega
  have ej:i64.wrap ((i:Int)-1)=(i:Int)-1:=w64 (by omega) (by omega);have en:i64.wrap ((i:Int)+(vs.length:Int))=((i+vs.length:Nat):Int):=by rw[w64 (by omega) (by omega)];omega
  have en1:i64.wrap (((i+vs.length:Nat):Int)-1)=((i+m+1:Nat):Int):=by rw[w64 (by omega) (by omega)];omega
  have hD:=Zve (us:=us) (vs:=vs) (j:=i) (m:=m) h2 hv hm (by omega) ht h6;have hI:=hD.init;have hr1:=Int.emod_lt_of_pos (us.getD (i+m+2) 0*4294967296+us.getD (i+m+1) 0) (show 0<vs.getD (m+1) 0 by omega);have ht2:=hD.htop;obtain⟨g,r,q1,q2,q3,q4⟩:=Zjz (k:=k) (kq:=kq) (qs:=qs) (s:=s) h1 hkb (by omega) hD _ _ _ (Nat.le_refl _) hI (by omega);rw[<- hm] at q1;have hn0:0<=us.getD (i+m+2) 0*4294967296+us.getD (i+m+1) 0:=by have:=hD.hx;have:=hD.hy;omega
  have hq0:=hI.g0;have hq1:=hI.gle;have hl5:Za Yir (.loop Ku) (X6 k us vs (vs.length:Nat) (vs.getD (m+1) 0) (vs.getD m 0) kq qs s (i:Nat) (u64.wrap (Int.tdiv (u64.wrap ((BitVec.ofInt (IntKind.bits .u64) (u64.wrap ((u64.wrap (us.getD (Int.toNat (i64.wrap ((i:Int)+(vs.length:Int)))) 0))*2^(min (Int.toNat 32) (IntKind.bits .u64)))) ||| BitVec.ofInt (IntKind.bits .u64) (u64.wrap (us.getD (Int.toNat (i64.wrap ((i64.wrap ((i:Int)+(vs.length:Int)))-1))) 0))).toNat)) (vs.getD (m+1) 0))) (Int.tmod (u64.wrap ((BitVec.ofInt (IntKind.bits .u64) (u64.wrap ((u64.wrap (us.getD (Int.toNat (i64.wrap ((i:Int)+(vs.length:Int)))) 0))*2^(min (Int.toNat 32) (IntKind.bits .u64)))) ||| BitVec.ofInt (IntKind.bits .u64) (u64.wrap (us.getD (Int.toNat (i64.wrap ((i64.wrap ((i:Int)+(vs.length:Int)))-1))) 0))).toNat)) (vs.getD (m+1) 0))) (.exit 2) (X6 k us vs (vs.length:Nat) (vs.getD (m+1) 0) (vs.getD m 0) kq qs s (i:Nat) g r):=by
   rw[en,en1,Int.toNat_natCast,Int.toNat_natCast,show i+vs.length=i+m+2 by omega,Ue (n:=us.getD (i+m+2) 0) (by have:=hD.hx;omega),Mo hD.hx hD.hy,Int.tdiv_eq_ediv_of_nonneg hn0,Int.tmod_eq_emod_of_nonneg hn0,Ue ⟨hq0,by omega⟩];exact q1
  have hms:=Zjy (k:=k) (t:=vs.getD (m+1) 0) (t2:=vs.getD m 0) (kq:=kq) (qs:=qs) (s:=s) (j:=i) (g:=g) hv hkb q2 (by omega) vs.length 0 us 0 0 (by omega) h1 h2 (by omega) (by omega);have hmo:=Tl (j:=i) q2 hv vs.length 0 us 0 0 (by omega) (by omega) h2 (by omega) (by omega);have hst:=Mb h2 hv (j:=i) (by omega) h6 q2 q3 q4;generalize hM:F9 g vs i vs.length 0 us 0 0=M at *
  obtain⟨m1,m2,m3,m4,_,_⟩:=hmo;obtain⟨d1,d2⟩:=dsign (Zt m2 (i+vs.length)) m4 m3;dsimp only at hst;obtain⟨S1,S2⟩:=hst;have fin:∀ (ws:List Int) (q:Int),StepOk us vs ws i q->(0<=q/\q<4294967296)->Za Yir Lq (H9 k us vs (vs.length:Nat) (vs.getD (m+1) 0) (vs.getD m 0) kq qs s (i:Nat)) .norm (H9 k ws vs (vs.length:Nat) (vs.getD (m+1) 0) (vs.getD m 0) kq (qs.set i q) s ((i:Int)-1)) ->
    ∃ us' qs',Za Yir (.loop Lq) (H9 k us vs (vs.length:Nat) (vs.getD (m+1) 0) (vs.getD m 0) kq qs s (i:Nat)) (.exit 0) (H9 k us' vs (vs.length:Nat) (vs.getD (m+1) 0) (vs.getD m 0) kq qs' s (-1)) /\
   us'.length=k/\U32 us'/\qs'.length=kq/\U32 qs'/\Zj us'<Zj vs/\Zj us=Zj vs*(Zj qs'-Zj qs)+Zj us':=by
   intro ws q hs hq hrun;obtain⟨us',qs',a1,a2,a3,a4,a5,a6,a7⟩:=ih ws (qs.set i q) (by omega) (by rw[hs.len];exact h1) hs.u32 (by simpa using h3) (Q4 h4 hq) (fun t ht=>by rw[Qq (by omega)];exact h5 t (by omega)) hs.low;refine⟨us',qs',Za.loop hrun a1,a2,a3,a4,a5,a6,?_⟩;have e:=hs.val;rw[Jy _ _ _ (by omega),h5 i (by omega),Int.sub_zero] at a7;generalize (4294967296:Int)^i=P at *
   grind
  rw[ei];by_cases hd:M.1.getD (i+vs.length) 0-M.2.2-M.2.1<0
  ·obtain⟨S2,hg1⟩:=S2 hd;have hu2:U32 (M.1.set (i+vs.length) ((M.1.getD (i+vs.length) 0-M.2.2-M.2.1) % 4294967296)):=Q4 m2 (by omega);have hab:=Zj0 (k:=k) (t:=vs.getD (m+1) 0) (t2:=vs.getD m 0) (kq:=kq) (qs:=qs) (s:=s) (j:=i) (g:=g-1) hv hkb (by omega) vs.length 0 (M.1.set (i+vs.length) ((M.1.getD (i+vs.length) 0-M.2.2-M.2.1) % 4294967296)) 0 (by omega) (by rw[List.length_set,m1];exact h1) hu2 (by omega);have hao:=Zac (j:=i) hv vs.length 0 (M.1.set (i+vs.length) ((M.1.getD (i+vs.length) 0-M.2.2-M.2.1) % 4294967296)) 0 (by omega) (by rw[List.length_set,m1];omega) hu2 (by omega);obtain⟨b1,b2,b3,_,_⟩:=hao;generalize hB:Mh vs i vs.length 0 (M.1.set (i+vs.length) ((M.1.getD (i+vs.length) 0-M.2.2-M.2.1) % 4294967296)) 0=Bb at *
   have eg:u64.wrap (g-1)=g-1:=Ue (by omega);have k1:=Zy6 k us vs (vs.length:Nat) (vs.getD (m+1) 0) (vs.getD m 0) kq qs s (i:Nat) M.1 Bb.1 g r M.2.1 M.2.2 Bb.2 (by simp) (by rw[en,Int.toNat_natCast,d1,if_pos hd];rfl) (by rw[en];omega) h1 (by rw[en,en1];omega) (by omega) hl5 hms (by rw[m1];exact h1) (by rw[en,Int.toNat_natCast,d2,eg];exact hab) (by rw[b1,List.length_set,m1];exact h1) (by omega) h3;rw[en,Int.toNat_natCast,eg,Int.toNat_natCast,w32 (n:=g-1) (by omega),ej,w32 (n:=Bb.2) (by omega),Wj] at k1;exact fin _ _ S2 (by omega) k1
  ·have k2:=Zy5 k us vs (vs.length:Nat) (vs.getD (m+1) 0) (vs.getD m 0) kq qs s (i:Nat) M.1 g r M.2.1 M.2.2 (by simp) (by rw[en,Int.toNat_natCast,d1,if_neg hd];rfl) (by rw[en];omega) h1 (by rw[en,en1];omega) (by omega) hl5 hms (by rw[m1];exact h1) (by omega) h3;rw[en,Int.toNat_natCast,Int.toNat_natCast,d2,w32 (n:=g) q2,ej] at k2;exact fin _ _ (S1 (by omega)) q2 k2
end
def TQB:J8:=TQA
theorem Jm:Q9 Yir TQB:=Zma
end Go.Proofs.YtopjpgejefileaaGreat

namespace Go.Proofs.YtopjpgejefileaaGreat
open Go.IntKind (i64 u64 u32)
open Go.Ai
set_option maxRecDepth 100000
theorem Zxu (b1 b2 na nb:Bool) (xs ys as1 bs qs rs:List Int) (v w:Int) (n1:Zc Yir 143 [.agg [.bool b1,.sl xs.length (lm xs)]] (.tup [.bool na,.sl as1.length (lm as1)])) (n2:Zc Yir 143 [.agg [.bool b2,.sl ys.length (lm ys)]] (.tup [.bool nb,.sl bs.length (lm bs)])) (n3:Zc Yir 180 [.sl as1.length (lm as1),.sl bs.length (lm bs)] (.tup [.sl qs.length (lm qs),.sl rs.length (lm rs)])) (n4:Zc Yir 152 [.bool (!(na==nb)),.sl qs.length (lm qs)] (Zi v)) (n5:Zc Yir 152 [.bool na,.sl rs.length (lm rs)] (Zi w)):Zc Yir 158 [.agg [.bool b1,.sl xs.length (lm xs)],.agg [.bool b2,.sl ys.length (lm ys)]] (.tup [Zi v,Zi w]):=Zc.go (fn:=Zk1) Jm rfl 400 rfl [.r (.tup [.bool na,.sl as1.length (lm as1)]),.r (.tup [.bool nb,.sl bs.length (lm bs)]),.r (.tup [.sl qs.length (lm qs),.sl rs.length (lm rs)]),.r (Zi v),.r (Zi w)] (ac n1 (ac n2 (ac n3 (ac n4 (ac n5 a0)))))
def Rg (xs:List Int) (v:Int) (n:Int) (i:Int):Zk:=(dds 3 (.val (.int .u64 v)::(dds 3 (.val (.sl xs.length (lm xs))::(.val (.int .i64 n)::(.val (.int .i64 i)::(dds 14 [])))))))
theorem Zy2 (xs:List Int) (v:Int) (n:Int) (i:Int)  (c1:(decide (i<n))=true) (n1:0<=i/\i<(xs.length:Int)) (n2:¬ (u64.wrap (i64.wrap (32*i)))<0):Za Yir Zlt (Rg xs v n i) .norm (Rg xs (u64.wrap ((BitVec.ofInt (IntKind.bits .u64) v ||| BitVec.ofInt (IntKind.bits .u64) (u64.wrap ((u64.wrap (xs.getD (Int.toNat i) 0))*2^(min (Int.toNat (u64.wrap (i64.wrap (32*i)))) (IntKind.bits .u64))))).toNat)) n (i64.wrap (i+1))):=(Za.go Jm 400 [.b true,.v (.int .u32 (xs.getD (Int.toNat i) 0))] [3,7,8,9] (ac c1 (ac n1 (ac (Zu n1) (ac n2 a0)))))
theorem Zy1 (xs:List Int) (v:Int) (n:Int) (i:Int)  (c1:(decide (i<n))=false):Za Yir Zlt (Rg xs v n i) (.exit 0) (Rg xs v n i):=(Za.go Jm 400 [.b false] [3,7,8,9] (ac c1 a0))
theorem Zxn (n:Bool) (xs:List Int) (v i m:Int) (hl1:Za Yir (.loop Zlt) (Rg xs 0 (xs.length:Int) 0) (.exit 0) (Rg xs v m i)):Zc Yir 183 [.agg [.bool n,.sl xs.length (lm xs)]] (.int .u64 v):=Zc.of_bodyW (fn:=Zkq) (s:=(dds 2 (.val (.int .u64 v)::(dds 21 [])))) (ex := .ret) rfl rfl (Za.asc (Za.csi (Za.seq (Za.go Jm 400 [] [3,7,8,9] a0) (Za.seq (Za.block hl1) (Za.go Jm 400 [] [2] a0))))) nofun rfl
theorem Zxp (n v:Int) (n1:Zc Yir 152 [.bool false,.sl 2 [.int .u32 (u32.wrap n),.int .u32 (u32.wrap (Int.fdiv n (2^(min (Int.toNat 32) (IntKind.bits .u64)))))]] (Zi v)):Zc Yir 181 [.int .u64 n] (Zi v):=Zc.go (fn:=Zks) Jm rfl 400 rfl [.r (Zi v)] (ac (show ¬ (32:Int)<0 from (by decide)) (ac n1 a0))
def Rh (a:Int) (b:Int):Zk:=(.val (.int .u64 a)::(.val (.int .u64 b)::(dds 10 [])))
theorem Zy3 (a:Int) (b:Int)  (c1:(decide (b>0))=true) (n1:¬ b=0):Za Yir Zlu (Rh a b) .norm (Rh b (Int.tmod a b)):=(Za.go Jm 400 [.b true] [0,1] (ac c1 (ac n1 a0)))
theorem Zkd (a:Int) (b:Int)  (c1:(decide (b>0))=false):Za Yir Zlu (Rh a b) (.exit 0) (Rh a b):=(Za.go Jm 400 [.b false] [0,1] (ac c1 a0))
theorem Zxo (a b a1 b1:Int) (hl1:Za Yir (.loop Zlu) (Rh a b) (.exit 0) (Rh a1 b1)):Zc Yir 182 [.int .u64 a,.int .u64 b] (.int .u64 a1):=Zc.of_bodyW (fn:=Zkr) (s:=(dds 4 (.val (.int .u64 a1)::(dds 7 [])))) (ex := .ret) rfl rfl (Za.seq (Za.go Jm 400 [] [0,1] a0) (Za.seq (Za.block hl1) (Za.go Jm 400 [] [4] a0))) nofun rfl
def Kx (x:Rn) (y:Rn) (z:Rn):Zk:=(dds 4 (.box [.bool z.1,.sl z.2.length (lm z.2)]::(.box [.bool x.1,.sl x.2.length (lm x.2)]::(.box [.bool y.1,.sl y.2.length (lm y.2)]::(dds 35 [])))))
theorem Zzm (x:Rn) (y:Rn) (z:Rn) (ua ub ug g:Int) (c1:(decide ((y.2.length:Int)>0))=true) (c2:(decide ((x.2.length:Int)<=2))=true) (c3:(decide ((y.2.length:Int)<=2))=true) (n1:Zc Yir 183 [Zp x] (.int .u64 ua)) (n2:Zc Yir 183 [Zp y] (.int .u64 ub)) (n3:Zc Yir 182 [.int .u64 ua,.int .u64 ub] (.int .u64 ug)) (n4:Zc Yir 181 [.int .u64 ug] (Zi g)):Za Yir Nq (Kx x y z) .ret (Kx x y (cn g)):=(Za.go Jm 400 [.b true,.b true,.b true,.r (.int .u64 ua),.r (.int .u64 ub),.r (.int .u64 ug),.r (Zi g)] [4,5,6] (ac c1 (ac c2 (ac c3 (ac n1 (ac n2 (ac n3 (ac n4 a0))))))))
theorem Zzl (x:Rn) (y:Rn) (z:Rn) (q r:Int) (c1:(decide ((y.2.length:Int)>0))=true) (c2:(decide ((x.2.length:Int)<=2))=true) (c3:(decide ((y.2.length:Int)<=2))=false) (n1:Zc Yir 158 [Zp x,Zp y] (.tup [Zi q,Zi r])):Za Yir Nq (Kx x y z) .norm (Kx y (cn r) z):=(Za.go Jm 400 [.b true,.b true,.b false,.r (.tup [Zi q,Zi r])] [4,5,6] (ac c1 (ac c2 (ac c3 (ac n1 a0)))))
theorem Zzk (x:Rn) (y:Rn) (z:Rn) (q r:Int) (c1:(decide ((y.2.length:Int)>0))=true) (c2:(decide ((x.2.length:Int)<=2))=false) (n1:Zc Yir 158 [Zp x,Zp y] (.tup [Zi q,Zi r])):Za Yir Nq (Kx x y z) .norm (Kx y (cn r) z):=(Za.go Jm 400 [.b true,.b false,.b false,.r (.tup [Zi q,Zi r])] [4,5,6] (ac c1 (ac c2 (ac (show false=false from rfl) (ac n1 a0)))))
theorem Zke (x:Rn) (y:Rn) (z:Rn)  (c1:(decide ((y.2.length:Int)>0))=false):Za Yir Nq (Kx x y z) (.exit 0) (Kx x y z):=(Za.go Jm 400 [.b false] [4,5,6] (ac c1 a0))
theorem Zik (b1 b2:Bool) (xs ys:List Int) (v w:Int) (x y z:Rn) (n1:Zc Yir 160 [.agg [.bool b1,.sl xs.length (lm xs)]] (Zi v)) (n2:Zc Yir 160 [.agg [.bool b2,.sl ys.length (lm ys)]] (Zi w)) (hl3:Za Yir (.loop Nq) (Kx (cn v) (cn w) (false,[])) (.exit 0) (Kx x y z)):Zc Yir 159 [.agg [.bool b1,.sl xs.length (lm xs)],.agg [.bool b2,.sl ys.length (lm ys)]] (Zp x):=Zc.of_bodyW (fn:=Zeq) (s:=(dds 4 (.box [.bool x.1,.sl x.2.length (lm x.2)]::(dds 37 [])))) (ex := .ret) rfl rfl (Za.asc (Za.seq (Za.go Jm 400 [.r (Zi v),.r (Zi w)] [4,5,6] (ac n1 (ac n2 a0))) (Za.seq (Za.block hl3) (Za.go Jm 400 [] [4] a0)))) nofun rfl
theorem Zij (b1 b2:Bool) (xs ys:List Int) (v w:Int) (x y z:Rn) (n1:Zc Yir 160 [.agg [.bool b1,.sl xs.length (lm xs)]] (Zi v)) (n2:Zc Yir 160 [.agg [.bool b2,.sl ys.length (lm ys)]] (Zi w)) (hl3:Za Yir (.loop Nq) (Kx (cn v) (cn w) (false,[])) .ret (Kx x y z)):Zc Yir 159 [.agg [.bool b1,.sl xs.length (lm xs)],.agg [.bool b2,.sl ys.length (lm ys)]] (Zp z):=Zc.of_bodyW (fn:=Zeq) (s:=(dds 4 (.box [.bool z.1,.sl z.2.length (lm z.2)]::(.box [.bool x.1,.sl x.2.length (lm x.2)]::(.box [.bool y.1,.sl y.2.length (lm y.2)]::(dds 35 [])))))) (ex := .ret) rfl rfl (Za.asc (Za.seq (Za.go Jm 400 [.r (Zi v),.r (Zi w)] [4,5,6] (ac n1 (ac n2 a0))) (Za.seq_out (Za.block_ret hl3) nofun))) nofun rfl
def TQC:J8:=TQB
theorem Zl9:Q9 Yir TQC:=Jm
end Go.Proofs.YtopjpgejefileaaGreat

namespace Go.Proofs.YtopjpgejefileaaGreat
open Go.IntKind (i64 u64 u32)
open Go.Ai
set_option maxRecDepth 100000
def Dx (g:Nat->Int) (i r:Nat):List Int:=(List.range i).map g++List.replicate r 0
theorem Pp (g:Nat->Int) (i r:Nat):(Dx g i r).length=i+r:=by simp [Dx]
theorem Zhh (g:Nat->Int) (i r:Nat):(Dx g i (r+1)).set i (g i)=Dx g (i+1) r:=by
 simp only[Dx,List.range_succ,List.map_append,List.map_cons,List.map_nil];rw[List.set_append_right _ _ (by simp)];simp[List.replicate_succ]
def Vo (us:List Int) (s:Nat) (i:Nat):Int:=us.getD (i+1) 0 % 2^s*2^(32-s)+us.getD i 0 / 2^s
theorem Mv {us:List Int} (hu:U32 us) {s:Nat} (hs:s<32) (i:Nat):(0<=us.getD i 0 / 2^s/\us.getD i 0 / 2^s<2^(32-s))/\0<=us.getD (i+1) 0 % 2^s/\us.getD (i+1) 0 % 2^s*2^(32-s)<4294967296/\(0<=Vo us s i/\Vo us s i<4294967296):=by
 have h0:=Zt hu i;have h1:=Zt hu (i+1);have hp:=Qe s;have hp2:=Qe (32-s);have e:=Zni (show s<=32 by omega);have a1:=Int.emod_nonneg (us.getD (i+1) 0) (show (2:Int)^s ≠ 0 by omega);have a2:=Int.emod_lt_of_pos (us.getD (i+1) 0) hp;have b0:0<=us.getD i 0 / 2^s:=Int.ediv_nonneg h0.1 (by omega);have b1:us.getD i 0 / 2^s<2^(32-s):=Int.ediv_lt_of_lt_mul hp (by rw[<- e];exact h0.2);unfold Vo;generalize us.getD (i+1) 0 % 2^s=x at *
 generalize us.getD i 0 / 2^s=y at *
 have c1:=Int.mul_le_mul_of_nonneg_right (show x+1<=2^s by omega) (show (0:Int)<=2^(32-s) by omega);rw[Int.add_mul,Int.one_mul,Int.mul_comm (2^s),<- e] at c1;have c2:=Int.mul_nonneg a1 (show (0:Int)<=2^(32-s) by omega);omega
theorem Zfq {us:List Int} (s:Nat) (hs:s<32):∀ n,n<=us.length->2^s*Zj ((List.range n).map (Vo us s))=Zj (us.take n)-us.getD 0 0 % 2^s+4294967296^n*(us.getD n 0 % 2^s):=by
 intro n;induction n with
 | zero =>
  intro _;simp only[List.range_zero,List.map_nil,List.take_zero,Zj,Int.pow_zero,Int.mul_zero,Int.one_mul];generalize us.getD 0 0 % 2^s=w;omega
 | succ n ih =>
  intro hn;have e:=Zni (show s<=32 by omega);rw[List.range_succ,List.map_append,List.map_cons,List.map_nil,Uf,List.length_map,List.length_range,Int.mul_add,ih (by omega),Jq us n (by omega),Int.pow_succ];have e2:Zj [Vo us s n]=Vo us s n:=by simp[Zj]
  rw[e2];unfold Vo;have e3:=Int.mul_ediv_add_emod (us.getD n 0) (2^s);generalize us.getD (n+1) 0 % 2^s=x at *
  generalize us.getD n 0 / 2^s=y at *
  generalize us.getD n 0 % 2^s=z at *
  generalize us.getD 0 0 % 2^s=w at *
  generalize us.getD n 0=u at *
  generalize Zj (us.take n)=V at *
  generalize (4294967296:Int)^n=P at *
  rw[e];generalize (2:Int)^(32-s)=T at *
  generalize (2:Int)^s=S at *
  rw[<- e3];grind
theorem Zjx {us:List Int} {k n kq:Nat} {qs:List Int} {s:Nat} (hu:U32 us) (hl:us.length=k) (hn:n<k) (hk:k<=1048577) (hs:s<32) :
  Za Yir (.loop Nc) (Hh k us (n:Nat) kq qs n (List.replicate n 0) (s:Nat) 0) (.exit 8) (Hh k us (n:Nat) kq qs n ((List.range n).map (Vo us s)) (s:Nat) (n:Nat)):=by
 have h:=Za.up (prog:=Yir) (c:=Nc) (ex := .exit 8) (fin:=Hh k us (n:Nat) kq qs n ((List.range n).map (Vo us s)) (s:Nat) (n:Nat))
  (fun i=>Hh k us (n:Nat) kq qs n (Dx (Vo us s) i (n-i)) (s:Nat) (i:Nat)) n nofun ?_ ?_ 0 (Nat.zero_le _)
 ·simpa [Dx] using h
 ·intro i hi;obtain⟨r,hr⟩:∃ r,n-i=r+1:=⟨n-i-1,by omega⟩;have e2:n-(i+1)=r:=by omega
  have ei:i64.wrap ((i:Int)+1)=((i+1:Nat):Int):=by rw[w64 (by omega) (by omega)];omega
  have hlen:(Dx (Vo us s) i (r+1)).length=n:=by rw[Pp];omega
  obtain⟨b1,b2,b3,b4⟩:=Mv hu hs i;have es:u64.wrap (s:Int)=(s:Nat):=Ue (by omega);have em:min (Int.toNat (s:Int)) (IntKind.bits .u32)=s:=by rw[Int.toNat_natCast];show min s 32=s;omega
  have hp:=Qe s;rw[hr,e2,<- Zhh];have hget:∀ v:Int,((Dx (Vo us s) i (r+1)).set i v).getD i 0=v:=fun v=>by simp[List.getD_eq_getElem?_getD,show i<(Dx (Vo us s) i (r+1)).length by omega]
  have efd:Int.fdiv (us.getD i 0) (2^s)=us.getD i 0 / 2^s:=Int.fdiv_eq_ediv_of_nonneg _ (by omega);by_cases h0:s=0
  ·subst h0;have k2:=Zqy k us (n:Nat) kq qs n (Dx (Vo us 0) i (r+1)) ((0:Nat):Int) (i:Nat) (by simp;omega) (by simp) (by omega) hl (by rw[es];omega) (by omega) hlen;rw[ei,Int.toNat_natCast,es,em,efd] at k2;have e5:Vo us 0 i=us.getD i 0 / 2^0:=by simp[Vo,Int.emod_one]
   rw[e5];exact k2
  ·have e32:u64.wrap (i64.wrap (32-(s:Int)))=((32-s:Nat):Int):=by rw[w64 (by omega) (by omega),Ue (by omega)];omega
   have em2:min (Int.toNat ((32-s:Nat):Int)) (IntKind.bits .u32)=32-s:=by rw[Int.toNat_natCast];show min (32-s) 32=32-s;omega
   have k1:=Zqz k us (n:Nat) kq qs n (Dx (Vo us s) i (r+1)) (s:Int) (i:Nat) (by simp;omega) (by simp;omega) (by omega) hl (by rw[es];omega) (by omega) hlen (by simpa using hlen) (by rw[ei];omega) (by rw[e32];omega);rw[ei,Int.toNat_natCast,Int.toNat_natCast,es,em,e32,em2,efd,hget,List.set_set,Wj (us.getD (i+1) 0*2^(32-s))] at k1;have e6:us.getD (i+1) 0*2^(32-s) % 4294967296=us.getD (i+1) 0 % 2^s*2^(32-s):=by
    rw[Zni (show s<=32 by omega),Int.mul_comm (us.getD (i+1) 0),Int.mul_emod_mul_of_pos _ _ (Qe (32-s)),Int.mul_comm]
   rw[e6,or32 b2 b3 (by omega) b1] at k1;exact k1
 ·have k3:=Zqx k us (n:Nat) kq qs n ((List.range n).map (Vo us s)) (s:Nat) (n:Nat) (by simp);simpa [Dx] using k3
theorem Ar {g:Nat->Int} {n:Nat} (h:∀ i,0<=g i/\g i<4294967296):U32 ((List.range n).map g):=fun x hx=>by
 obtain⟨i,_,rfl⟩:=List.mem_map.1 hx;exact h i
theorem           Pa {xs ys : List Int} (hx :    We xs) (hy :    We ys) (hy0 : ys ≠ []) (h1 : xs.length < 1048576) (h2 : ys.length < 1048576) : ∃ qs rs, U32 qs /\ U32 rs /\ (qs : List Int).length <= 1048576 /\ (rs : List Int).length <= 1048576 /\   Zj qs =   Zj xs /   Zj ys /\   Zj rs =   Zj xs %   Zj ys /\
    Zc       Yir 180 [.sl xs.length (lm xs), .sl ys.length (lm ys)] (.tup [.sl qs.length (lm qs), .sl rs.length (lm rs)]) := by
  have hyl := List.length_pos_iff.2 hy0
  have hcmp :=           Wg hx hy (by omega)
  have hx0 :=          Zv hx.1
  have hyp :=        W0 hy hy0
  by_cases hlt :   Zj xs <   Zj ys
  · refine ⟨[], xs, fun x h => (nomatch h), hx.1, by simp, by omega, ?_, ?_, ?_⟩
    · rw [Int.ediv_eq_zero_of_lt hx0 hlt]; rfl
    · rw [Int.emod_eq_of_lt hx0 hlt]
    · exact           Zid xs ys _ (by unfold   U0; rw [if_pos hlt]; rfl) (   Zb4 xs) (by omega) hcmp
  have hcm : decide (  U0 (  Zj xs) (  Zj ys) < 0) = false := by unfold   U0; rw [if_neg hlt]; split <;> rfl
  by_cases hone : ys.length = 1
  · obtain ⟨y, rfl⟩ := List.length_eq_one_iff.1 hone
    have e1 :   Zj [y] = y := by simp [  Zj]
    rw [e1] at hyp
    have hyb := hy.1 y (by simp)
    obtain ⟨qs, r, q1, q2, q3, q4, q5⟩ :=           L9 hx.1 (d := y) ⟨hyp, hyb.2⟩ (by omega)
    have e2 :   Zj [r] = r := by simp [  Zj]
    have hd := (Int.ediv_emod_unique hyp (a :=   Zj xs) (r := r) (q :=   Zj qs)).2 ⟨by omega, q3.1, q3.2⟩
    refine ⟨qs, [r], q2, fun x h => by rw [List.mem_singleton.1 h]; omega, by omega, by simp, by rw [e1]; exact hd.1.symm, by rw [e1, e2]; exact hd.2.symm, ?_⟩
    exact           Zic xs [y] qs _ r hcm (by rfl) hcmp (by simp) q5
  · obtain ⟨m, hm⟩ : ∃ m, ys.length = m + 2 := ⟨ys.length - 2, by omega⟩
    have hxl : ys.length <= xs.length := by
      rcases Nat.lt_or_ge xs.length ys.length with g | g
      · exact absurd (      Kl hx hy g) hlt
      · exact g
    -- the first limb of y
    have hyt : 0 < ys.getD (m + 1) 0 /\ ys.getD (m + 1) 0 < 4294967296 := by
      have a :=       Zt hy.1 (m + 1)
      rcases hy.2 with g | g
      · exact absurd g hy0
      · rw [show ys.length - 1 = m + 1 by omega] at g; omega
    obtain ⟨s, hs, s1, s2, hlz⟩ :=    Zu7 hyt
    obtain ⟨us, u1, u2, u3, hus⟩ :=          A2 hx.1 hs h1
    obtain ⟨ws, w1, w2, w3, hws⟩ :=          A2 hy.1 hs h2
    have hp :=       Qe s
    -- y between powers
    have ysplit :=        Ji ys (j := m + 1) (by omega)
    have yd :=       Q3 ys (m + 1)
    rw [      J0 (xs := ys) (i := m + 1 + 1) (by omega), Int.mul_zero, Int.add_zero] at yd
    rw [yd] at ysplit
    have ylo :=      U6 hy.1 (m + 1)
    have ylo0 :=          Zv (      Jz hy.1 (m + 1))
    have hP :=        Qx (m + 1)
    have hV1 : 2147483648 * 4294967296 ^ (m + 1) <=   Zj ws := by
      rw [w3, ysplit]
      have a := Int.mul_le_mul_of_nonneg_right s1 (show (0 : Int) <= 4294967296 ^ (m + 1) by omega)
      have b := Int.mul_nonneg (show (0 : Int) <= 2 ^ s by omega) ylo0
      have e : 2 ^ s * (  Zj (List.take (m + 1) ys) + 4294967296 ^ (m + 1) * ys.getD (m + 1) 0) = 2 ^ s *   Zj (List.take (m + 1) ys) + ys.getD (m + 1) 0 * 2 ^ s * 4294967296 ^ (m + 1) := by grind
      omega
    have hV2 :   Zj ws < 4294967296 ^ (m + 2) := by
      have e9 : (4294967296 : Int) ^ (m + 2) = 4294967296 ^ (m + 1) * 4294967296 := Int.pow_succ _ _
      rw [w3, ysplit]
      have e0 :=  Zni (show s <= 32 by omega)
      have a1 : ys.getD (m + 1) 0 + 1 <= 2 ^ (32 - s) := by
        rw [e0] at s2
        have := Int.lt_of_mul_lt_mul_right s2 (by omega)
        omega
      have a2 := Int.mul_le_mul_of_nonneg_right a1 (show (0 : Int) <= 2 ^ s * 4294967296 ^ (m + 1) by have := Int.mul_pos hp hP; omega)
      have a3 := Int.mul_lt_mul_of_pos_left ylo hp
      have e1 : (ys.getD (m + 1) 0 + 1) * (2 ^ s * 4294967296 ^ (m + 1)) = 2 ^ s * (4294967296 ^ (m + 1) * ys.getD (m + 1) 0) + 2 ^ s * 4294967296 ^ (m + 1) := by grind
      have e2 : (2 : Int) ^ (32 - s) * (2 ^ s * 4294967296 ^ (m + 1)) = 4294967296 ^ (m + 1) * 4294967296 := by rw [<- Int.mul_assoc, <- e0, Int.mul_comm]
      rw [Int.mul_add]
      omega
    have hdz :=         Wz w2 (n := m + 2) (V := 4294967296 ^ (m + 2)) (Int.le_refl _) hV2
    have hvs :   Zj (ws.take (m + 2)) =   Zj ws := by
      have :=        Ji ws (j := m + 2) (by omega)
      rw [hdz, Int.mul_zero, Int.add_zero] at this
      exact this.symm
    have hvl : (ws.take (m + 2)).length = m + 2 := by simp; omega
    have hvu :=       Jz w2 (m + 2)
    generalize hvv : ws.take (m + 2) = vs at *
    have hvtop : 2147483648 <= vs.getD (m + 1) 0 := by
      have a :=        Ji vs (j := m + 1) (by omega)
      have b :=       Q3 vs (m + 1)
      rw [      J0 (xs := vs) (i := m + 1 + 1) (by omega), Int.mul_zero, Int.add_zero] at b
      rw [b] at a
      have c :=      U6 hvu (m + 1)
      apply Int.not_lt.1
      intro h
      have := Int.mul_le_mul_of_nonneg_left (show vs.getD (m + 1) 0 + 1 <= 2147483648 by omega) (show (0 : Int) <= 4294967296 ^ (m + 1) by omega)
      rw [Int.mul_add, Int.mul_one, Int.mul_comm _ 2147483648] at this
      omega
    have hini :   Zj (us.drop (xs.length - ys.length + 1)) <   Zj vs := by
      have a :=        Ji us (j := xs.length - ys.length + 1) (by omega)
      have b :=          Zv (      Jz u2 (xs.length - ys.length + 1))
      have c :=      J2 hx.1
      have d := Int.mul_lt_mul_of_pos_left c hp
      have e : (4294967296 : Int) ^ xs.length = 4294967296 ^ (xs.length - ys.length + 1) * 4294967296 ^ (m + 1) := by rw [<- Int.pow_add]; congr 1; omega
      have hp2 : (2 : Int) ^ s <= 2147483648 := by
        have :=      Vp (show s <= 31 by omega); rwa [show (2 : Int) ^ 31 = 2147483648 by decide] at this
      have hQ :=        Qx (xs.length - ys.length + 1)
      rw [hvs]
      apply Int.lt_of_lt_of_le (b := 2 ^ s * 4294967296 ^ (m + 1))
      · apply Int.lt_of_mul_lt_mul_left (a := 4294967296 ^ (xs.length - ys.length + 1)) _ (by omega)
        have e2 : (4294967296 : Int) ^ (xs.length - ys.length + 1) * (2 ^ s * 4294967296 ^ (m + 1)) = 2 ^ s * 4294967296 ^ xs.length := by rw [e]; grind
        omega
      · have := Int.mul_le_mul_of_nonneg_right hp2 (show (0 : Int) <= 4294967296 ^ (m + 1) by omega)
        omega
    obtain ⟨us', qs, l1, l2, l3, l4, l5, l6, l7⟩ :=          Zqf (k := xs.length + 1) (kq := xs.length - ys.length + 1) (s := (s : Nat)) hvu hvl hvtop (by omega) (by omega) (xs.length - ys.length + 1) us (List.replicate (xs.length - ys.length + 1) 0) (Nat.le_refl _) u1 u2 (by simp) (       Xk _) (fun t _ =>         Jn _ _) hini
    have l8 :=           Zjx (us := us') (k := xs.length + 1) (n := m + 2) (kq := xs.length - ys.length + 1) (qs := qs) l3 l2 (by omega) (by omega) hs
    rw [        Xe, Int.sub_zero, u3, hvs, w3] at l7
    rw [hvs] at l6
    -- the remainder
    have hR :   Zj us' = 2 ^ s * (  Zj xs -   Zj ys *   Zj qs) := by rw [Int.mul_sub]; have : 2 ^ s *   Zj ys *   Zj qs = 2 ^ s * (  Zj ys *   Zj qs) := by grind
                                                                     omega
    have us0 :=          Zv l3
    have hR0 : 0 <=   Zj xs -   Zj ys *   Zj qs := by
      apply Int.not_lt.1
      intro h
      have := Int.mul_le_mul_of_nonneg_left (show   Zj xs -   Zj ys *   Zj qs <= -1 by omega) (show (0 : Int) <= 2 ^ s by omega)
      omega
    have hR1 :   Zj xs -   Zj ys *   Zj qs <   Zj ys := by
      rw [hR, w3] at l6
      exact Int.lt_of_mul_lt_mul_left l6 (by omega)
    have hrs :   Zj ((List.range (m + 2)).map (  Vo us' s)) =   Zj xs -   Zj ys *   Zj qs := by
      have a :=     Zfq (us := us') s hs (m + 2) (by omega)
      have b : us'.getD 0 0 % 2 ^ s = 0 := by
        have c :=       Q3 us' 0
        rw [List.drop_zero, Nat.zero_add, hR] at c
        have e0 :=  Zni (show s <= 32 by omega)
        have : us'.getD 0 0 = 2 ^ s * (  Zj xs -   Zj ys *   Zj qs - 2 ^ (32 - s) *   Zj (us'.drop 1)) := by rw [Int.mul_sub, <- Int.mul_assoc, Int.mul_comm (2 ^ s) (2 ^ (32 - s)), <- e0]; omega
        rw [this]
        exact Int.mul_emod_right _ _
      have dz :=         Wz l3 (n := m + 2) (V :=   Zj ws) (by omega) l6
      have c2 : us'.getD (m + 2) 0 = 0 := by
        have c :=       Q3 us' (m + 2)
        rw [dz] at c
        have d1 :=          Zv (      Xy l3 (m + 2 + 1))
        have d2 :=       Zt l3 (m + 2)
        omega
      have d :=        Ji us' (j := m + 2) (by omega)
      rw [dz, Int.mul_zero, Int.add_zero] at d
      rw [b, c2, <- d, hR, Int.zero_emod, Int.mul_zero, Int.sub_zero, Int.add_zero] at a
      exact Int.eq_of_mul_eq_mul_left (by omega) a
    have hd := (Int.ediv_emod_unique hyp (a :=   Zj xs) (r :=   Zj xs -   Zj ys *   Zj qs) (q :=   Zj qs)).2 ⟨by omega, hR0, hR1⟩
    have e1 : IntKind.i64.wrap (((ys.length : Nat) : Int) - 1) = ((m + 1 : Nat) : Int) := by rw [w64 (by omega) (by omega)]; omega
    have e2 : IntKind.i64.wrap (((ys.length : Nat) : Int) - 2) = ((m : Nat) : Int) := by rw [w64 (by omega) (by omega)]; omega
    have e3 : IntKind.i64.wrap (((xs.length : Nat) : Int) - ((ys.length : Nat) : Int)) = ((xs.length - ys.length : Nat) : Int) := by rw [w64 (by omega) (by omega)]; omega
    have e4 : IntKind.i64.wrap (((xs.length - ys.length : Nat) : Int) + 1) = ((xs.length - ys.length + 1 : Nat) : Int) := by rw [w64 (by omega) (by omega)]; omega
    have hlv : vs.length = ys.length := by omega
    have hvv2 : ws.take ys.length = vs := by rw [hm]; exact hvv
    have v1 :=       Zt hvu (m + 1)
    have v2 :=       Zt hvu m
    refine ⟨qs, (List.range (m + 2)).map (  Vo us' s), l5,        Ar (fun i => (     Mv l3 hs i).2.2.2), by omega, by simp; omega, hd.1.symm, by rw [hrs]; exact hd.2.symm, ?_⟩
    have hl11 :    Za     Yir (.loop        Lq) (       H9 us.length us vs (vs.length : Nat) (vs.getD (m + 1) 0) (vs.getD m 0) (xs.length - ys.length + 1) (List.replicate (xs.length - ys.length + 1) 0) (s : Nat) ((xs.length - ys.length : Nat) : Int)) (.exit 0) (       H9 us.length us' vs (vs.length : Nat) (vs.getD (m + 1) 0) (vs.getD m 0) (xs.length - ys.length + 1) qs (s : Nat) (-1)) := by
      rw [u1]
      refine l1.to ?_ rfl
      congr 1
      omega
    have h :=           Zib xs ys us ws us' vs qs ((List.range (m + 2)).map (  Vo us' s)) _ (s : Nat) (vs.length : Nat) (vs.getD (m + 1) 0) (vs.getD m 0) (-1) us.length (xs.length - ys.length + 1) (m + 2) hcm (by rw [hm, beq_eq_false_iff_ne]; omega) hcmp (by rw [e1]; omega) (by rw [e1, Int.toNat_natCast]; exact hlz) (by omega) (by rw [Int.toNat_natCast]; exact ⟨by omega, by omega, Nat.le_refl _, fun _ => rfl⟩) hus hws (by rw [e3, e4]; omega) (by rw [e1, Int.toNat_natCast]; omega) (by rw [e2, Int.toNat_natCast]; omega)
      (by
        rw [e1, e2, e3, e4, Int.toNat_natCast, Int.toNat_natCast, Int.toNat_natCast, Int.toNat_natCast,       Xz,      Zb2, List.drop_zero, Nat.sub_zero, hvv2,   Ue (n := vs.getD (m + 1) 0) (by omega),   Ue (n := vs.getD m 0) (by omega)]
        unfold        H9 at hl11 |-
        rw [hlv] at hl11 |-
        exact hl11)
      (by omega) (by
        rw [hvl, Int.toNat_natCast,       Xz, u1]
        exact l8)
    rw [show qs.length = xs.length - ys.length + 1 from l4, show ((List.range (m + 2)).map (  Vo us' s)).length = m + 2 by simp]
    exact h
def TQD:J8:=TQC
theorem Zl8:Q9 Yir TQD:=Zl9
end Go.Proofs.YtopjpgejefileaaGreat
