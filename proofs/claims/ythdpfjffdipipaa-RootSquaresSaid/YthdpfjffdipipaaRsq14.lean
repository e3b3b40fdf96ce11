/- Texts of the proof of RootSquares, packed by pack.py: part 14 of 18. -/
import Derived.Test.YthdpfjffdipipaaRsq13
namespace Go.Proofs.Ythdpfjffdipipaa
open Go.IntKind (i64 u64 u32)
open Go.Ai
set_option maxRecDepth 100000
def rtA (fs:List Rn) (r:Rn) (e:Int) (t:Rn) (f:Int):AV := .agg [.sl fs.length (pc fs),.bool r.1,.sl r.2.length (lm r.2),.int .i64 e,.bool t.1,.sl t.2.length (lm t.2),.int .i64 f]
def rtB (fs:List Rn) (r:Rn) (e:Int) (t:Rn) (f:Int):Reg := .box [.sl fs.length (pc fs),.bool r.1,.sl r.2.length (lm r.2),.int .i64 e,.bool t.1,.sl t.2.length (lm t.2),.int .i64 f]
theorem Zlj (r:Rn) (e z:Int) (c1:(decide (e>=0))=true) (c2:(decide (e<=1024))=true) (n1:Zc Yir 37 [Z4 r] (.int .i64 z)):Zc Yir 93 [dyR r e] (.bool (decide (z<=1024))):=Zc.go (fn:=Zun) Zk rfl 400 rfl [.b true,.b true,.r (.int .i64 z)] (ac c1 (ac c2 (ac n1 a0)))
theorem Zli (r:Rn) (e:Int) (c1:(decide (e>=0))=true) (c2:(decide (e<=1024))=false):Zc Yir 93 [dyR r e] (.bool false):=Zc.go (fn:=Zun) Zk rfl 400 rfl [.b true,.b false] (ac c1 (ac c2 a0))
theorem Zlh (r:Rn) (e:Int) (c1:(decide (e>=0))=false):Zc Yir 93 [dyR r e] (.bool false):=Zc.go (fn:=Zun) Zk rfl 400 rfl [.b false,.b false] (ac c1 (ac (show false=false from rfl) a0))
theorem Zlz (rs:List Rn) (b:Bool) (c1:(b)=false) (n1:Zc Yir 35 [.sl 1 [.sl rs.length (pc rs)]] (.bool b)):Zc Yir 68 [.sl rs.length (pc rs)] (.tup [.sl rs.length (pc rs),.int .i64 0]):=Zc.go (fn:=Yi68) Zk rfl 400 rfl [.r (.bool b),.b false] (ac n1 (ac c1 a0))
theorem Zk7 (rs ss:List Rn) (b:Bool) (c1:(b)=true) (n1:Zc Yir 35 [.sl 2 [.sl rs.length (pc rs),.sl ss.length (pc ss)]] (.bool b)):Zc Yir 96 [.sl rs.length (pc rs),.sl ss.length (pc ss)] (.tup [.sl 0 [],.int .i64 2]):=Zc.go (fn:=Zwd) Zk rfl 400 rfl [.r (.bool b),.b true] (ac n1 (ac c1 a0))
theorem Zk6 (rs ss us:List Rn) (b:Bool) (e:Int) (c1:(b)=false) (n1:Zc Yir 35 [.sl 2 [.sl rs.length (pc rs),.sl ss.length (pc ss)]] (.bool b)) (n2:Zc Yir 128 [.sl rs.length (pc rs),.sl ss.length (pc ss)] (.fresh 2 us.length (pc us))) (n3:Zc Yir 68 [.sl us.length (pc us)] (.tup [.sl us.length (pc us),.int .i64 e])):Zc Yir 96 [.sl rs.length (pc rs),.sl ss.length (pc ss)] (.tup [.sl us.length (pc us),.int .i64 e]):=Zc.go (fn:=Zwd) Zk rfl 400 rfl [.r (.bool b),.b false,.r (.fresh 2 us.length (pc us)),.r (.tup [.sl us.length (pc us),.int .i64 e])] (ac n1 (ac c1 (ac n2 (ac n3 a0))))
theorem Zpr (rs us:List Rn) (e:Int) (n1:Zc Yir 96 [.sl rs.length (pc rs),.sl 0 []] (.tup [.sl us.length (pc us),.int .i64 e])):Zc Yir 60 [.sl rs.length (pc rs)] (.bool (e==0)):=Zc.go (fn:=Yi60) Zk rfl 400 rfl [.r (.tup [.sl us.length (pc us),.int .i64 e])] (ac n1 a0)
theorem Zmf (fs:List Rn) (r t:Rn) (e f:Int) (d:Int) (b:Bool) (c1:(b)=true) (c2:(decide (d<1))=true) (n1:Zc Yir 60 [.sl fs.length (pc fs)] (.bool b)) (n2:Zc Yir 34 [.sl fs.length (pc fs)] (.int .i64 d)):Zc Yir 59 [rtA fs r e t f] (.bool false):=Zc.go (fn:=Zhs) Zk rfl 400 rfl [.r (.bool b),.b false,.r (.int .i64 d),.b true,.b true,.b true] (ac n1 (ac (show (!b)=false from (by rw [c1];rfl)) (ac n2 (ac c2 (ac (show true=true from rfl) (ac (show true=true from rfl) a0))))))
theorem Zme (fs:List Rn) (r t:Rn) (e f:Int) (ts:List Rn) (d c s:Int) (b v1 v2:Bool) (c1:(b)=true) (c2:(decide (d<1))=false) (c3:(v1)=true) (c4:(v2)=true) (c5:(c==0)=true) (n1:Zc Yir 60 [.sl fs.length (pc fs)] (.bool b)) (n2:Zc Yir 34 [.sl fs.length (pc fs)] (.int .i64 d)) (n3:Zc Yir 93 [dyR r e] (.bool v1)) (n4:Zc Yir 93 [dyR t f] (.bool v2)) (n5:Zc Yir 50 [dyR r e,dyR t f] (.int .i64 c)) (n6:Zc Yir 95 [.sl fs.length (pc fs)] (.fresh 2 ts.length (pc ts))) (n7:Zc Yir 38 [.sl ts.length (pc ts),dyR r e] (.int .i64 s)):Zc Yir 59 [rtA fs r e t f] (.bool (s==0)):=Zc.go (fn:=Zhs) Zk rfl 400 rfl [.r (.bool b),.b false,.r (.int .i64 d),.b false,.r (.bool v1),.b false,.r (.bool v2),.b false,.r (.int .i64 c),.b true,.r (.fresh 2 ts.length (pc ts)),.r (.int .i64 s)] (ac n1 (ac (show (!b)=false from (by rw [c1];rfl)) (ac n2 (ac c2 (ac n3 (ac (show (!v1)=false from (by rw [c3];rfl)) (ac n4 (ac (show (!v2)=false from (by rw [c4];rfl)) (ac n5 (ac c5 (ac n6 (ac n7 a0))))))))))))
theorem Zmd (fs:List Rn) (r t:Rn) (e f:Int) (d c:Int) (b v1 v2:Bool) (c1:(b)=true) (c2:(decide (d<1))=false) (c3:(v1)=true) (c4:(v2)=true) (c5:(c==0)=false) (c6:(c==1)=true) (n1:Zc Yir 60 [.sl fs.length (pc fs)] (.bool b)) (n2:Zc Yir 34 [.sl fs.length (pc fs)] (.int .i64 d)) (n3:Zc Yir 93 [dyR r e] (.bool v1)) (n4:Zc Yir 93 [dyR t f] (.bool v2)) (n5:Zc Yir 50 [dyR r e,dyR t f] (.int .i64 c)):Zc Yir 59 [rtA fs r e t f] (.bool false):=Zc.go (fn:=Zhs) Zk rfl 400 rfl [.r (.bool b),.b false,.r (.int .i64 d),.b false,.r (.bool v1),.b false,.r (.bool v2),.b false,.r (.int .i64 c),.b false,.b true] (ac n1 (ac (show (!b)=false from (by rw [c1];rfl)) (ac n2 (ac c2 (ac n3 (ac (show (!v1)=false from (by rw [c3];rfl)) (ac n4 (ac (show (!v2)=false from (by rw [c4];rfl)) (ac n5 (ac c5 (ac c6 a0)))))))))))
theorem Zmc (fs:List Rn) (r t:Rn) (e f:Int) (ls:List (List Rn)) (d c x y:Int) (b v1 v2:Bool) (c1:(b)=true) (c2:(decide (d<1))=false) (c3:(v1)=true) (c4:(v2)=true) (c5:(c==0)=false) (c6:(c==1)=false) (n1:Zc Yir 60 [.sl fs.length (pc fs)] (.bool b)) (n2:Zc Yir 34 [.sl fs.length (pc fs)] (.int .i64 d)) (n3:Zc Yir 93 [dyR r e] (.bool v1)) (n4:Zc Yir 93 [dyR t f] (.bool v2)) (n5:Zc Yir 50 [dyR r e,dyR t f] (.int .i64 c)) (n6:Zc Yir 48 [.sl fs.length (pc fs)] (.fresh 1 ls.length (pp ls))) (n7:Zc Yir 52 [.sl ls.length (pp ls),dyR r e] (.int .i64 x)) (n8:Zc Yir 52 [.sl ls.length (pp ls),dyR t f] (.int .i64 y)):Zc Yir 59 [rtA fs r e t f] (.bool ((i64.wrap (x-y))==1)):=Zc.go (fn:=Zhs) Zk rfl 400 rfl [.r (.bool b),.b false,.r (.int .i64 d),.b false,.r (.bool v1),.b false,.r (.bool v2),.b false,.r (.int .i64 c),.b false,.b false,.r (.fresh 1 ls.length (pp ls)),.r (.int .i64 x),.r (.int .i64 y)] (ac n1 (ac (show (!b)=false from (by rw [c1];rfl)) (ac n2 (ac c2 (ac n3 (ac (show (!v1)=false from (by rw [c3];rfl)) (ac n4 (ac (show (!v2)=false from (by rw [c4];rfl)) (ac n5 (ac c5 (ac c6 (ac n6 (ac n7 (ac n8 a0))))))))))))))
theorem Zmb (fs:List Rn) (r t:Rn) (e f:Int) (d:Int) (b v1 v2:Bool) (c1:(b)=true) (c2:(decide (d<1))=false) (c3:(v1)=true) (c4:(v2)=false) (n1:Zc Yir 60 [.sl fs.length (pc fs)] (.bool b)) (n2:Zc Yir 34 [.sl fs.length (pc fs)] (.int .i64 d)) (n3:Zc Yir 93 [dyR r e] (.bool v1)) (n4:Zc Yir 93 [dyR t f] (.bool v2)):Zc Yir 59 [rtA fs r e t f] (.bool false):=Zc.go (fn:=Zhs) Zk rfl 400 rfl [.r (.bool b),.b false,.r (.int .i64 d),.b false,.r (.bool v1),.b false,.r (.bool v2),.b true] (ac n1 (ac (show (!b)=false from (by rw [c1];rfl)) (ac n2 (ac c2 (ac n3 (ac (show (!v1)=false from (by rw [c3];rfl)) (ac n4 (ac (show (!v2)=true from (by rw [c4];rfl)) a0))))))))
theorem Zma (fs:List Rn) (r t:Rn) (e f:Int) (d:Int) (b v1:Bool) (c1:(b)=true) (c2:(decide (d<1))=false) (c3:(v1)=false) (n1:Zc Yir 60 [.sl fs.length (pc fs)] (.bool b)) (n2:Zc Yir 34 [.sl fs.length (pc fs)] (.int .i64 d)) (n3:Zc Yir 93 [dyR r e] (.bool v1)):Zc Yir 59 [rtA fs r e t f] (.bool false):=Zc.go (fn:=Zhs) Zk rfl 400 rfl [.r (.bool b),.b false,.r (.int .i64 d),.b false,.r (.bool v1),.b true,.b true] (ac n1 (ac (show (!b)=false from (by rw [c1];rfl)) (ac n2 (ac c2 (ac n3 (ac (show (!v1)=true from (by rw [c3];rfl)) (ac (show true=true from rfl) a0)))))))
theorem Zl9 (fs:List Rn) (r t:Rn) (e f:Int) (b:Bool) (c1:(b)=false) (n1:Zc Yir 60 [.sl fs.length (pc fs)] (.bool b)):Zc Yir 59 [rtA fs r e t f] (.bool false):=Zc.go (fn:=Zhs) Zk rfl 400 rfl [.r (.bool b),.b true,.b true,.b true,.b true] (ac n1 (ac (show (!b)=true from (by rw [c1];rfl)) (ac (show true=true from rfl) (ac (show true=true from rfl) (ac (show true=true from rfl) a0)))))
theorem Zro (fs:List Rn) (r t:Rn) (e f:Int) (c:Int) (n1:Zc Yir 50 [dyR r e,dyR t f] (.int .i64 c)):Zc Yir 127 [rtA fs r e t f] (.bool (c==0)):=Zc.go (fn:=Zh3) Zk rfl 400 rfl [.r (.int .i64 c)] (ac n1 a0)
theorem Zlg (fs:List Rn) (r t:Rn) (e f:Int) (q:Rn) (g c_qr:Int) (b:Bool) (c1:(b)=false) (c2:(decide (c_qr<=0))=true) (n1:Zc Yir 127 [rtA fs r e t f] (.bool b)) (n2:Zc Yir 50 [dyR q g,dyR r e] (.int .i64 c_qr)):Zc Yir 94 [rtA fs r e t f,dyR q g] (.int .i64 1):=Zc.go (fn:=Zhr) Zk rfl 400 rfl [.r (.bool b),.b false,.r (.int .i64 c_qr),.b true] (ac n1 (ac c1 (ac n2 (ac c2 a0))))
theorem Zlf (fs:List Rn) (r t:Rn) (e f:Int) (q:Rn) (g c_qr c_qt:Int) (b:Bool) (c1:(b)=false) (c2:(decide (c_qr<=0))=false) (c3:(decide (c_qt>0))=true) (n1:Zc Yir 127 [rtA fs r e t f] (.bool b)) (n2:Zc Yir 50 [dyR q g,dyR r e] (.int .i64 c_qr)) (n3:Zc Yir 50 [dyR q g,dyR t f] (.int .i64 c_qt)):Zc Yir 94 [rtA fs r e t f,dyR q g] (.int .i64 (-1)):=Zc.go (fn:=Zhr) Zk rfl 400 rfl [.r (.bool b),.b false,.r (.int .i64 c_qr),.b false,.r (.int .i64 c_qt),.b true] (ac n1 (ac c1 (ac n2 (ac c2 (ac n3 (ac c3 a0))))))
theorem Zle (fs:List Rn) (r t:Rn) (e f:Int) (q:Rn) (g c_qr c_qt s_t:Int) (b:Bool) (c1:(b)=false) (c2:(decide (c_qr<=0))=false) (c3:(decide (c_qt>0))=false) (c4:(c_qt==0)=true) (c5:(s_t==0)=true) (n1:Zc Yir 127 [rtA fs r e t f] (.bool b)) (n2:Zc Yir 50 [dyR q g,dyR r e] (.int .i64 c_qr)) (n3:Zc Yir 50 [dyR q g,dyR t f] (.int .i64 c_qt)) (n4:Zc Yir 38 [.sl fs.length (pc fs),dyR t f] (.int .i64 s_t)):Zc Yir 94 [rtA fs r e t f,dyR q g] (.int .i64 0):=Zc.go (fn:=Zhr) Zk rfl 400 rfl [.r (.bool b),.b false,.r (.int .i64 c_qr),.b false,.r (.int .i64 c_qt),.b false,.r (.int .i64 s_t),.b true,.b true] (ac n1 (ac c1 (ac n2 (ac c2 (ac n3 (ac c3 (ac n4 (ac c4 (ac c5 a0)))))))))
theorem Zld (fs:List Rn) (r t:Rn) (e f:Int) (q:Rn) (g c_qr c_qt s_t:Int) (b:Bool) (c1:(b)=false) (c2:(decide (c_qr<=0))=false) (c3:(decide (c_qt>0))=false) (c4:(c_qt==0)=true) (c5:(s_t==0)=false) (n1:Zc Yir 127 [rtA fs r e t f] (.bool b)) (n2:Zc Yir 50 [dyR q g,dyR r e] (.int .i64 c_qr)) (n3:Zc Yir 50 [dyR q g,dyR t f] (.int .i64 c_qt)) (n4:Zc Yir 38 [.sl fs.length (pc fs),dyR t f] (.int .i64 s_t)):Zc Yir 94 [rtA fs r e t f,dyR q g] (.int .i64 (-1)):=Zc.go (fn:=Zhr) Zk rfl 400 rfl [.r (.bool b),.b false,.r (.int .i64 c_qr),.b false,.r (.int .i64 c_qt),.b false,.r (.int .i64 s_t),.b true,.b false] (ac n1 (ac c1 (ac n2 (ac c2 (ac n3 (ac c3 (ac n4 (ac c4 (ac c5 a0)))))))))
theorem Zlc (fs:List Rn) (r t:Rn) (e f:Int) (q:Rn) (g c_qr c_qt s_t s_q:Int) (b:Bool) (c1:(b)=false) (c2:(decide (c_qr<=0))=false) (c3:(decide (c_qt>0))=false) (c4:(c_qt==0)=false) (c5:(s_q==0)=true) (n1:Zc Yir 127 [rtA fs r e t f] (.bool b)) (n2:Zc Yir 50 [dyR q g,dyR r e] (.int .i64 c_qr)) (n3:Zc Yir 50 [dyR q g,dyR t f] (.int .i64 c_qt)) (n4:Zc Yir 38 [.sl fs.length (pc fs),dyR t f] (.int .i64 s_t)) (n5:Zc Yir 38 [.sl fs.length (pc fs),dyR q g] (.int .i64 s_q)):Zc Yir 94 [rtA fs r e t f,dyR q g] (.int .i64 0):=Zc.go (fn:=Zhr) Zk rfl 400 rfl [.r (.bool b),.b false,.r (.int .i64 c_qr),.b false,.r (.int .i64 c_qt),.b false,.r (.int .i64 s_t),.b false,.r (.int .i64 s_q),.b true] (ac n1 (ac c1 (ac n2 (ac c2 (ac n3 (ac c3 (ac n4 (ac c4 (ac n5 (ac c5 a0))))))))))
theorem Zlb (fs:List Rn) (r t:Rn) (e f:Int) (q:Rn) (g c_qr c_qt s_t s_q:Int) (b:Bool) (c1:(b)=false) (c2:(decide (c_qr<=0))=false) (c3:(decide (c_qt>0))=false) (c4:(c_qt==0)=false) (c5:(s_q==0)=false) (c6:(s_q==s_t)=true) (n1:Zc Yir 127 [rtA fs r e t f] (.bool b)) (n2:Zc Yir 50 [dyR q g,dyR r e] (.int .i64 c_qr)) (n3:Zc Yir 50 [dyR q g,dyR t f] (.int .i64 c_qt)) (n4:Zc Yir 38 [.sl fs.length (pc fs),dyR t f] (.int .i64 s_t)) (n5:Zc Yir 38 [.sl fs.length (pc fs),dyR q g] (.int .i64 s_q)):Zc Yir 94 [rtA fs r e t f,dyR q g] (.int .i64 (-1)):=Zc.go (fn:=Zhr) Zk rfl 400 rfl [.r (.bool b),.b false,.r (.int .i64 c_qr),.b false,.r (.int .i64 c_qt),.b false,.r (.int .i64 s_t),.b false,.r (.int .i64 s_q),.b false,.b true] (ac n1 (ac c1 (ac n2 (ac c2 (ac n3 (ac c3 (ac n4 (ac c4 (ac n5 (ac c5 (ac c6 a0)))))))))))
theorem Zla (fs:List Rn) (r t:Rn) (e f:Int) (q:Rn) (g c_qr c_qt s_t s_q:Int) (b:Bool) (c1:(b)=false) (c2:(decide (c_qr<=0))=false) (c3:(decide (c_qt>0))=false) (c4:(c_qt==0)=false) (c5:(s_q==0)=false) (c6:(s_q==s_t)=false) (n1:Zc Yir 127 [rtA fs r e t f] (.bool b)) (n2:Zc Yir 50 [dyR q g,dyR r e] (.int .i64 c_qr)) (n3:Zc Yir 50 [dyR q g,dyR t f] (.int .i64 c_qt)) (n4:Zc Yir 38 [.sl fs.length (pc fs),dyR t f] (.int .i64 s_t)) (n5:Zc Yir 38 [.sl fs.length (pc fs),dyR q g] (.int .i64 s_q)):Zc Yir 94 [rtA fs r e t f,dyR q g] (.int .i64 1):=Zc.go (fn:=Zhr) Zk rfl 400 rfl [.r (.bool b),.b false,.r (.int .i64 c_qr),.b false,.r (.int .i64 c_qt),.b false,.r (.int .i64 s_t),.b false,.r (.int .i64 s_q),.b false,.b false] (ac n1 (ac c1 (ac n2 (ac c2 (ac n3 (ac c3 (ac n4 (ac c4 (ac n5 (ac c5 (ac c6 a0)))))))))))
theorem Zhi (fs:List Rn) (r t:Rn) (e f:Int) (b:Bool) (c1:(b)=true) (n1:Zc Yir 127 [rtA fs r e t f] (.bool b)):Zc Yir 101 [rtA fs r e t f] (rtA fs r e t f):=Zc.go (fn:=Tf) Zk rfl 400 rfl [.r (.bool b),.b true] (ac n1 (ac c1 a0))
theorem Zhh (fs:List Rn) (r t:Rn) (e f:Int) (n m s:Int) (b:Bool) (c1:(b)=false) (c2:(decide (s<=0))=true) (n1:Zc Yir 127 [rtA fs r e t f] (.bool b)) (n2:Zc Yir 56 [dyR r e,dyR t f] (dyR (cn n) m)) (n3:Zc Yir 94 [rtA fs r e t f,dyR (cn n) m] (.int .i64 s)):Zc Yir 101 [rtA fs r e t f] (rtA fs r e (cn n) m):=Zc.go (fn:=Tf) Zk rfl 400 rfl [.r (.bool b),.b false,.r (dyR (cn n) m),.r (.int .i64 s),.b true] (ac n1 (ac c1 (ac n2 (ac n3 (ac c2 a0)))))
theorem Zhg (fs:List Rn) (r t:Rn) (e f:Int) (n m s:Int) (b:Bool) (c1:(b)=false) (c2:(decide (s<=0))=false) (n1:Zc Yir 127 [rtA fs r e t f] (.bool b)) (n2:Zc Yir 56 [dyR r e,dyR t f] (dyR (cn n) m)) (n3:Zc Yir 94 [rtA fs r e t f,dyR (cn n) m] (.int .i64 s)):Zc Yir 101 [rtA fs r e t f] (rtA fs (cn n) m t f):=Zc.go (fn:=Tf) Zk rfl 400 rfl [.r (.bool b),.b false,.r (dyR (cn n) m),.r (.int .i64 s),.b false] (ac n1 (ac c1 (ac n2 (ac n3 (ac c2 a0)))))
theorem Zpq (r:Rn) (e n:Int) (n1:Zc Yir 124 [Z4 r] (Zi n)):Zc Yir 98 [dyR r e] (dyR (cn n) e):=Zc.go (fn:=Yi98) Zk rfl 400 rfl [.r (Zi n)] (ac n1 a0)
theorem Yrun63 (fs:List Rn) (r t:Rn) (e f:Int) (ts:List Rn) (n m u v:Int) (n1:Zc Yir 95 [.sl fs.length (pc fs)] (.fresh 2 ts.length (pc ts))) (n2:Zc Yir 98 [dyR r e] (dyR (cn n) m)) (n3:Zc Yir 98 [dyR t f] (dyR (cn u) v)):Zc Yir 63 [rtA fs r e t f] (rtA ts (cn n) m (cn u) v):=Zc.go (fn:=Yi63) Zk rfl 400 rfl [.r (.fresh 2 ts.length (pc ts)),.r (dyR (cn n) m),.r (dyR (cn u) v)] (ac n1 (ac n2 (ac n3 a0)))
theorem Zl0 (fs:List Rn) (r t:Rn) (e f:Int) (gs:List Rn) (n1:Zc Yir 72 [.sl fs.length (pc fs)] (.sl gs.length (pc gs))):Zc Yir 66 [rtA fs r e t f] (rtA gs r e t f):=Zc.go (fn:=Zwj) Zk rfl 400 rfl [.r (.sl gs.length (pc gs))] (ac n1 a0)
theorem Zl1 (fs:List Rn) (r t:Rn) (e f:Int) (gs:List Rn) (n1:Zc Yir 72 [.sl fs.length (pc fs)] (.fresh 2 gs.length (pc gs))):Zc Yir 66 [rtA fs r e t f] (rtA gs r e t f):=Zc.go (fn:=Zwj) Zk rfl 400 rfl [.r (.fresh 2 gs.length (pc gs))] (ac n1 a0)
def TXA:Jx:=TZB
theorem Zii:Qn Yir TXA:=Zif
end Go.Proofs.Ythdpfjffdipipaa

namespace Go.Proofs.Ythdpfjffdipipaa
open Go.IntKind (i64 u64 u32)
open Go.Ai
set_option maxRecDepth 100000
def Ziv (r:Rn) (e:Int):Bool:=decide (e>=0)&&decide (e<=1024)&&decide (Bo (Ze r).natAbs<=1024)
theorem Zgf {r:Rn} {e:Int} (h:Ziv r e=true):∃ a:Nat,e=(a:Nat)/\a<=1024/\Bo (Ze r).natAbs<=1024:=by
 unfold Ziv at h;simp only[Bool.and_eq_true,decide_eq_true_eq] at h;exact⟨e.toNat,by omega,by omega,h.2⟩
theorem Eb {r:Rn} {e:Int} (hr:Ji 100 r):Zc Yir 93 [dyR r e] (.bool (Ziv r e)):=by
 have hb:=Km (neg:=r.1) hr.1 (by have:=hr.2;omega);unfold Ziv;by_cases c1:e>=0
 ·by_cases c2:e<=1024
  ·have k:=Zlj r e _ (decide_eq_true c1) (decide_eq_true c2) hb;have ez:decide (((Bo (Ze r).natAbs:Nat):Int)<=1024)=decide (Bo (Ze r).natAbs<=1024):=decide_eq_decide.2 (by omega);rw[decide_eq_true c1,decide_eq_true c2];show Zc _ _ _ (.bool (decide (Bo (Ze r).natAbs<=1024)));rw[<- ez];exact k
  ·rw[decide_eq_true c1,decide_eq_false c2];exact Zli r e (decide_eq_true c1) (decide_eq_false c2)
 ·rw[decide_eq_false c1];exact Zlh r e (decide_eq_false c1)
theorem Sf (p:List Int):Xl (Zj p)=Xl p:=by
 unfold Xl;rw[Gx]
theorem Ze9:Xl []=false:=by decide
theorem F2 {rs:List Rn} {K:Nat} (hg:∀ r∈rs,Ji K r) (hK:K<=1000) (hN:rs.length<=1000):Zc Yir 60 [.sl rs.length (pc rs)] (.bool (!Xl (Zf rs))):=by
 have h1:=Na (ps:=[rs,[]]) (fun p hp=>by
  rcases List.mem_cons.1 hp with rfl | hp
  ·exact⟨fun r h=>(hg r h).mono (by omega),by omega⟩
  ·rcases List.mem_cons.1 hp with rfl | hp
   ·exact⟨fun r h=>(by cases h),by decide⟩
   ·cases hp) (by simp)
 have e1:([rs,[]].any fun p=>Xl (Zf p))=Xl (Zf rs):=by
  have:Zf ([]:List Rn)=[]:=rfl;simp[this,Ze9]
 rw[e1] at h1;cases c:Xl (Zf rs) with
 | true =>
  rw[c] at h1;exact Zpr rs [] 2 (Zk7 rs [] true rfl h1)
 | false =>
  rw[c] at h1;have h2:=Zgl (rs:=rs) (ss:=[]) hg (fun r h=>by cases h) (by omega) (by omega) (by decide);have ep:Gs (Zf rs) (Zf ([]:List Rn))=Zj (Zf rs):=by
   rw[<- Aj];apply V2;intro i;rw[Xa];have:(Zf ([]:List Rn)).getD i 0=0:=by simp[Zf]
   omega
  rw[ep] at h2;have hl:=Jj (Zf rs);rw[Zu] at hl;have hgt:∀ r∈(Zj (Zf rs)).map cn,Ji K r:=Bk (W2 (Xj hg));have h3:=Na (ps:=[(Zj (Zf rs)).map cn]) (fun p hp=>by
   rcases List.mem_cons.1 hp with rfl | hp
   ·exact⟨fun r h=>(hgt r h).mono (by omega),by rw[List.length_map];omega⟩
   ·cases hp) (by simp)
  have e3:([(Zj (Zf rs)).map cn].any fun p=>Xl (Zf p))=false:=by
   rw[List.any_cons,List.any_nil,Bool.or_false,Qa,Sf];exact c
  rw[e3] at h3;have h4:=Zlz _ false rfl h3;exact Zpr rs _ _ (Zk6 rs [] _ false 0 rfl h1 (L6 h2) h4)
theorem Nn {l:List (List Int)} (hl:l.length<=100) (x:Int) (e:Nat) (y:Int) (f:Nat):i64.wrap ((Xc l x e l.length).1-(Xc l y f l.length).1)=(Xc l x e l.length).1-(Xc l y f l.length).1:=by
 have b1:=Gv l x e l.length;have b2:=Gv l y f l.length;exact w64 (by omega) (by omega)
def Zkt (p:List Int) (x:Int) (a:Nat) (y:Int) (b:Nat):Int:=(Xc (Qz p) x a (Qz p).length).1-(Xc (Qz p) y b (Qz p).length).1
def Dm (rs:List Rn) (r:Rn) (e:Int) (t:Rn) (f:Int):Bool :=
 !Xl (Zf rs)&&decide (2<=(Zj (Zf rs)).length)&&Ziv r e&&Ziv t f &&
  (if X1 (Ze r) e.toNat (Ze t) f.toNat=0 then decide (Wa (hv (Zj (Zf rs)) (Ze r) (2^e.toNat))=0)
  else decide (X1 (Ze r) e.toNat (Ze t) f.toNat = -1/\Zkt (Zf rs) (Ze r) e.toNat (Ze t) f.toNat=1))
section
variable {rs:List Rn} {r t:Rn} (hg:∀ r∈rs,Ji 5 r) (hn:rs.length<=9) (hr:Ji 100 r) (ht:Ji 100 t) (e f:Int)
include hg hn hr ht
theorem Bq:Zc Yir 59 [.agg [.sl rs.length (pc rs),.bool r.1,.sl r.2.length (lm r.2),.int .i64 e,.bool t.1,.sl t.2.length (lm t.2),.int .i64 f]] (.bool (Dm rs r e t f)):=by
 have h1:=F2 hg (by omega) (by omega);have h2:=Uy (fun r h=>(hg r h).mono (by omega)) (show rs.length<=1048576 by omega);have h3:=Eb (e:=e) hr;have h4:=Eb (e:=f) ht;have htl:=Xm (Zf rs);rw[Zu] at htl;unfold Dm;cases c1:Xl (Zf rs) with
 | true =>
  rw[c1] at h1;exact Zl9 rs r t e f false rfl h1
 | false =>
  rw[c1] at h1;by_cases c2:2<=(Zj (Zf rs)).length
  ·have d2:decide (((Zt (Zf rs) rs.length:Nat):Int)-1<1)=false:=by rw[decide_eq_false_iff_not];omega
   cases c3:Ziv r e with
   | false =>
    rw[c3] at h3;rw[decide_eq_true c2];exact Zma rs r t e f _ true false rfl d2 rfl h1 h2 h3
   | true =>
    rw[c3] at h3;cases c4:Ziv t f with
    | false =>
     rw[c4] at h4;rw[decide_eq_true c2];exact Zmb rs r t e f _ true true false rfl d2 rfl rfl h1 h2 h3 h4
    | true =>
     rw[c4] at h4;obtain⟨a,rfl,ha,_⟩:=Zgf c3;obtain⟨b,rfl,hb,_⟩:=Zgf c4;rw[Int.toNat_natCast,Int.toNat_natCast,decide_eq_true c2];have h5:=U7 (hr.mono (show 100<=200 by omega)) (ht.mono (show 100<=200 by omega)) (a:=a) (b:=b) (by omega) (by omega);by_cases c5:X1 (Ze r) a (Ze t) b=0
     ·rw[c5] at h5;rw[if_pos c5];have h6:=Wt (fun r h=>(hg r h).mono (by omega)) (show rs.length<=1048576 by omega);have hk:∀ r∈(Zj (Zf rs)).map cn,Ji 5 r:=Bk (W2 (Xj hg));have hl:=Jj (Zf rs);rw[Zu] at hl;have h7:=Gr (rs:=(Zj (Zf rs)).map cn) hk hr a (by
       rw[List.length_map];have:((Zj (Zf rs)).length+1)*(100+(a / 32+1)+1)<=10*230:=Nat.mul_le_mul (by omega) (by omega);omega) (by omega)
      rw[Qa] at h7;have k:=Zme rs r t (a:Nat) (b:Nat) _ _ 0 _ true true true rfl d2 rfl rfl rfl h1 h2 h3 h4 h5 (L6 h6) h7;refine k
     ·rw[if_neg c5];have hbd:=Zgc (Ze r*2^b) (Ze t*2^a);by_cases c6:X1 (Ze r) a (Ze t) b=1
      ·rw[c6] at h5;rw[decide_eq_false (show ¬ (X1 (Ze r) a (Ze t) b = -1/\_) by rw[c6];exact fun g=>absurd g.1 (by decide))];exact Zmd rs r t (a:Nat) (b:Nat) _ 1 true true true rfl d2 rfl rfl rfl rfl h1 h2 h3 h4 h5
      ·have c7:X1 (Ze r) a (Ze t) b = -1:=by
        have h0:X1 (Ze r) a (Ze t) b=U6 (Ze r*2^b) (Ze t*2^a):=rfl;omega
       rw[c7] at h5;have hch:=Dj hg hn;have hnice:=Gp hg hn;have hlen:=Dg hg hn;have x1:=X9 hnice hr a (by omega) (by omega);have x2:=X9 hnice ht b (by omega) (by omega);have k:=Zmc rs r t (a:Nat) (b:Nat) _ _ (-1) _ _ true true true rfl d2 rfl rfl rfl rfl h1 h2 h3 h4 h5 hch x1 x2;rw[Nn (by omega)] at k;have ee:decide (X1 (Ze r) a (Ze t) b = -1/\Zkt (Zf rs) (Ze r) a (Ze t) b=1)=(Zkt (Zf rs) (Ze r) a (Ze t) b==1):=by
        rw[c7];cases hq:(Zkt (Zf rs) (Ze r) a (Ze t) b==1) with
        | true=>rw[decide_eq_true_eq];exact⟨rfl,by simpa using hq⟩
        | false=>rw[decide_eq_false_iff_not];exact fun g=>by rw[beq_eq_false_iff_ne] at hq;exact hq g.2
       rw[ee];exact k
  ·have d2:decide (((Zt (Zf rs) rs.length:Nat):Int)-1<1)=true:=by rw[decide_eq_true_eq];omega
   rw[decide_eq_false c2];exact Zmf rs r t e f _ true rfl d2 h1 h2
end
def Zi0 (p:List Int):Prop:=Kb 500000 p/\p.length<=9
theorem Zi7 {p:List Int} (hl:p.length<=9) {a:Nat} (ha:a<=4096):500000+2+(p.length+1)*(100+(a / 32+1)+1)<=1048576:=by
 have:(p.length+1)*(100+(a / 32+1)+1)<=10*230:=Nat.mul_le_mul (by omega) (by omega);omega
def sgD (p:List Int) (x:Int) (a:Nat):Int:=Wa (hv p x (2^a))
theorem B3 {p:List Int} (hp:Zi0 p) {r:Rn} (hr:Ji 100 r) {a:Nat} (ha:a<=4096):Zc Yir 38 [.sl (p.map cn).length (pc (p.map cn)),dyR r (a:Nat)] (.int .i64 (sgD p (Ze r) a)):=by
 have h:=Gr (rs:=p.map cn) (Ql hp.1) hr a (by rw[List.length_map];exact Zi7 hp.2 ha) (by omega);rw[Qa] at h;exact h
section
variable {rs:List Rn} {r t:Rn} (hg:∀ r∈rs,Ji 5 r) (hn:rs.length<=9) (hr:Ji 100 r) (ht:Ji 100 t) (e f:Int)
include hg hn hr ht
end
def TXB:Jx:=TXA
theorem Zih:Qn Yir TXB:=Zii
end Go.Proofs.Ythdpfjffdipipaa

namespace Go.Proofs.Ythdpfjffdipipaa
open Go.IntKind (i64 u64 u32)
open Go.Ai
set_option maxRecDepth 100000
theorem Mt (c x q:Int):∀ p:List Int,hv p (c*x) (c*q)=c^(p.length-1)*hv p x q
 | []=>by simp[hv]
 | [a]=>by simp[hv]
 | a::b::p=>by
  have ih:=Mt c x q (b::p);have e:∀ y d,hv (a::b::p) y d=a*d^(p.length+1)+y*hv (b::p) y d:=fun _ _=>rfl;have e1:(b::p).length-1=p.length:=rfl;have e2:(a::b::p).length-1=p.length+1:=rfl;rw[e1] at ih;rw[e,e,ih,e2,Int.mul_pow,Int.pow_succ c p.length];generalize hv (b::p) x q=H;generalize c^p.length=C;generalize q^(p.length+1)=Q;grind
theorem Fv {c:Int} (hc:0<c) (v:Int):Wa (c*v)=Wa v:=by
 unfold Wa;rcases Int.lt_trichotomy v 0 with h | h | h
 ·have:=Int.mul_neg_of_pos_of_neg hc h;rw[if_pos this,if_pos h]
 ·subst h;rw[Int.mul_zero]
 ·have:=Int.mul_pos hc h;rw[if_neg (by omega),if_pos this,if_neg (by omega),if_pos h]
theorem Tv {p:List Int} {x y:Int} {a b:Nat} (h:x*2^b=y*2^a):sgD p x a=sgD p y b:=by
 unfold sgD;have pa:(0:Int)<2^a:=Int.pow_pos (by decide);have pb:(0:Int)<2^b:=Int.pow_pos (by decide);have qa:(0:Int)<(2^a)^(p.length-1):=Int.pow_pos pa;have qb:(0:Int)<(2^b)^(p.length-1):=Int.pow_pos pb;rw[<- Fv qb (hv p x (2^a)),<- Mt,<- Fv qa (hv p y (2^b)),<- Mt];rw[Int.mul_comm (2^b) x,h,Int.mul_comm (2^b) (2^a),Int.mul_comm (2^a) y]
def Wc (p:List Int) (lo:Int) (a:Nat) (hi:Int) (b:Nat) (x:Int) (c:Nat):Int :=
 if X1 x c lo a<=0 then 1 else if X1 x c hi b>0 then -1 else if sgD p x c=0 then 0 else if sgD p x c=sgD p hi b then -1 else 1
section
variable {p:List Int} (hp:Zi0 p) {r t q:Rn} (hr:Ji 100 r) (ht:Ji 100 t) (hq:Ji 100 q) {a b c:Nat} (ha:a<=4096) (hb:b<=4096) (hc:c<=4096)
include hr ht ha hb
theorem Fe:Zc Yir 127 [.agg [.sl (p.map cn).length (pc (p.map cn)),.bool r.1,.sl r.2.length (lm r.2),.int .i64 (a:Nat),.bool t.1,.sl t.2.length (lm t.2),.int .i64 (b:Nat)]] (.bool (X1 (Ze r) a (Ze t) b==0)) :=
 Zro _ r t _ _ _ (U7 (hr.mono (by omega)) (ht.mono (by omega)) ha hb)
include hp hq hc
theorem Tt (hne:X1 (Ze r) a (Ze t) b ≠ 0):Zc Yir 94 [.agg [.sl (p.map cn).length (pc (p.map cn)),.bool r.1,.sl r.2.length (lm r.2),.int .i64 (a:Nat),.bool t.1,.sl t.2.length (lm t.2),.int .i64 (b:Nat)],dyR q (c:Nat)]
  (.int .i64 (Wc p (Ze r) a (Ze t) b (Ze q) c)):=by
 have h1:=Fe (p:=p) hr ht ha hb;rw[beq_eq_false_iff_ne.2 hne] at h1;have h2:=U7 (hq.mono (show 100<=200 by omega)) (hr.mono (show 100<=200 by omega)) hc ha;have h3:=U7 (hq.mono (show 100<=200 by omega)) (ht.mono (show 100<=200 by omega)) hc hb;have s1:=B3 hp ht hb;have s2:=B3 hp hq hc;unfold Wc;by_cases c1:X1 (Ze q) c (Ze r) a<=0
 ·rw[if_pos c1];exact Zlg _ r t _ _ q _ _ false rfl (decide_eq_true c1) h1 h2
 rw[if_neg c1];by_cases c2:X1 (Ze q) c (Ze t) b>0
 ·rw[if_pos c2];exact Zlf _ r t _ _ q _ _ _ false rfl (decide_eq_false c1) (decide_eq_true c2) h1 h2 h3
 rw[if_neg c2];by_cases c3:X1 (Ze q) c (Ze t) b=0
 ·have hs:sgD p (Ze q) c=sgD p (Ze t) b:=by
   apply Tv;unfold X1 U6 at c3;split at c3
   ·exact absurd c3 (by decide)
   ·split at c3
    ·exact absurd c3 (by decide)
    ·omega
  rw[hs];by_cases c4:sgD p (Ze t) b=0
  ·rw[if_pos c4];exact Zle _ r t _ _ q _ _ _ _ false rfl (decide_eq_false c1) (decide_eq_false c2) (by rw[beq_iff_eq];exact c3) (by rw[beq_iff_eq];exact c4) h1 h2 h3 s1
  ·rw[if_neg c4,if_pos rfl];exact Zld _ r t _ _ q _ _ _ _ false rfl (decide_eq_false c1) (decide_eq_false c2) (by rw[beq_iff_eq];exact c3) (by rw[beq_eq_false_iff_ne];exact c4) h1 h2 h3 s1
 ·have d3:(X1 (Ze q) c (Ze t) b==0)=false:=beq_eq_false_iff_ne.2 c3;by_cases c4:sgD p (Ze q) c=0
  ·rw[if_pos c4];exact Zlc _ r t _ _ q _ _ _ _ _ false rfl (decide_eq_false c1) (decide_eq_false c2) d3 (by rw[beq_iff_eq];exact c4) h1 h2 h3 s1 s2
  rw[if_neg c4];by_cases c5:sgD p (Ze q) c=sgD p (Ze t) b
  ·rw[if_pos c5];exact Zlb _ r t _ _ q _ _ _ _ _ false rfl (decide_eq_false c1) (decide_eq_false c2) d3 (by rw[beq_eq_false_iff_ne];exact c4) (by rw[beq_iff_eq];exact c5) h1 h2 h3 s1 s2
  ·rw[if_neg c5];exact Zla _ r t _ _ q _ _ _ _ _ false rfl (decide_eq_false c1) (decide_eq_false c2) d3 (by rw[beq_eq_false_iff_ne];exact c4) (by rw[beq_eq_false_iff_ne];exact c5) h1 h2 h3 s1 s2
end
structure Iv where
 r:Rn
 a:Nat
 t:Rn
 b:Nat
def Iv.mn (x:Iv):Int:=Zj5 (Ze x.r) x.a (Ze x.t) x.b
def Iv.me (x:Iv):Nat:=Zbz (Ze x.r) x.a (Ze x.t) x.b
def stp (p:List Int) (x:Iv):Iv :=
 if X1 (Ze x.r) x.a (Ze x.t) x.b=0 then x
 else if Wc p (Ze x.r) x.a (Ze x.t) x.b x.mn x.me<=0 then ⟨x.r,x.a,cn x.mn,x.me⟩ else ⟨cn x.mn,x.me,x.t,x.b⟩
def Iv.av (p:List Int) (x:Iv):AV := .agg [.sl (p.map cn).length (pc (p.map cn)),.bool x.r.1,.sl x.r.2.length (lm x.r.2),.int .i64 (x.a:Nat),.bool x.t.1,.sl x.t.2.length (lm x.t.2),.int .i64 (x.b:Nat)]
structure IvOk (C m:Nat) (x:Iv):Prop where
 gr:Ji 100 x.r
 gt:Ji 100 x.t
 a:x.a<=m
 b:x.b<=m
 vr:(Ze x.r).natAbs<=2^C*2^x.a
 vt:(Ze x.t).natAbs<=2^C*2^x.b
theorem Zey {x a y b}:Zbz x a y b<=max a b+1:=by unfold Zbz;omega
theorem Zez {x:Int} {a:Nat} {y:Int} {b C:Nat} (hx:x.natAbs<=2^C*2^a) (hy:y.natAbs<=2^C*2^b):(Zj5 x a y b).natAbs<=2^C*2^Zbz x a y b:=by
 have hz:=B9 (max a b+1) (Ld x a y b);have hd:=G2 (max a b+1) (Ld x a y b);have h1:(Ld x a y b).natAbs<=2^C*2^(max a b+1):=by
  unfold Ld;have e1:(x*2^(max a b-a)).natAbs<=2^C*2^max a b:=by
   rw[Int.natAbs_mul,Int.natAbs_pow];have:2^C*2^max a b=2^C*2^a*2^(max a b-a):=by rw[Nat.mul_assoc,<- Nat.pow_add 2 a];congr 2;omega
   rw[this];exact Nat.mul_le_mul hx (Nat.le_refl _)
  have e2:(y*2^(max a b-b)).natAbs<=2^C*2^max a b:=by
   rw[Int.natAbs_mul,Int.natAbs_pow];have:2^C*2^max a b=2^C*2^b*2^(max a b-b):=by rw[Nat.mul_assoc,<- Nat.pow_add 2 b];congr 2;omega
   rw[this];exact Nat.mul_le_mul hy (Nat.le_refl _)
  have e3:2^C*2^(max a b+1)=2^C*2^max a b+2^C*2^max a b:=by rw[Nat.pow_succ,<- Nat.mul_assoc];omega
  omega
 unfold Zj5 Zbz;generalize Ld x a y b=S at *
 generalize D3 S (max a b+1)=z at *
 obtain⟨N,rfl⟩:=hd;have pz:(0:Int)<2^z:=Int.pow_pos (by decide);rw[Int.mul_ediv_cancel_left _ (by omega)];rw[Int.natAbs_mul,Int.natAbs_pow] at h1;have e4:2^C*2^(max a b+1)=2^z*(2^C*2^(max a b+1-z)):=by
  rw[Nat.mul_left_comm,<- Nat.pow_add 2 z];congr 2;omega
 rw[e4] at h1;exact Nat.le_of_mul_le_mul_left h1 (Nat.pow_pos (by decide))
theorem Ug {n:Int} {k:Nat} (h:n.natAbs<=2^k) {K:Nat} (hk:k<32*K):Jo K n:=by
 unfold Jo;have:(4294967296:Nat)^K=2^(32*K):=by rw[Nat.pow_mul]
 rw[this];exact Nat.lt_of_le_of_lt h (Nat.pow_lt_pow_right (by decide) hk)
theorem stp_ok {p:List Int} {C m:Nat} {x:Iv} (h:IvOk C m x) (hC:C+m+1<3000):IvOk C (m+1) (stp p x):=by
 obtain⟨gr,gt,ha,hb,vr,vt⟩:=h;have e1:=Zez vr vt;have e2:x.me<=max x.a x.b+1:=Zey;have e3:x.mn.natAbs<=2^C*2^x.me:=e1;have hf:Ji 100 (cn x.mn):=Q5 (Ug (k:=C+x.me) (by rw[Nat.pow_add];exact e3) (by omega));unfold stp;split
 ·exact⟨gr,gt,by omega,by omega,vr,vt⟩
 ·split
  ·exact⟨gr,hf,by show x.a<=_;omega,by show x.me<=_;omega,vr,by show (Ze (cn x.mn)).natAbs<=_;rw[Zv];exact e3⟩
  ·exact⟨hf,gt,by show x.me<=_;omega,by show x.b<=_;omega,by show (Ze (cn x.mn)).natAbs<=_;rw[Zv];exact e3,vt⟩
section
variable {p:List Int} (hp:Zi0 p) {C m:Nat} {x:Iv} (h:IvOk C m x) (hC:C+m+1<3000)
include hp h hC
theorem Mb:Zc Yir 101 [x.av p] ((stp p x).av p):=by
 obtain⟨gr,gt,ha,hb,vr,vt⟩:=h;have h1:=Fe (p:=p) gr gt (a:=x.a) (b:=x.b) (by omega) (by omega);unfold stp;by_cases c1:X1 (Ze x.r) x.a (Ze x.t) x.b=0
 ·rw[if_pos c1];rw[beq_iff_eq.2 c1] at h1;exact Zhi _ x.r x.t _ _ true rfl h1
 ·rw[if_neg c1];rw[beq_eq_false_iff_ne.2 c1] at h1;have e3:x.mn.natAbs<=2^C*2^x.me:=Zez vr vt;have e2:x.me<=max x.a x.b+1:=Zey;have hf:Ji 100 (cn x.mn):=Q5 (Ug (k:=C+x.me) (by rw[Nat.pow_add];exact e3) (by omega));have h2:=Eh (gr.mono (show 100<=200 by omega)) (gt.mono (show 100<=200 by omega)) (a:=x.a) (b:=x.b) (by omega) (by omega);have h3:=Tt hp gr gt hf (a:=x.a) (b:=x.b) (c:=x.me) (by omega) (by omega) (by omega) c1;rw[Zv] at h3;by_cases c2:Wc p (Ze x.r) x.a (Ze x.t) x.b x.mn x.me<=0
  ·rw[if_pos c2];exact Zhh _ x.r x.t _ _ _ _ _ false rfl (decide_eq_true c2) h1 h2 h3
  ·rw[if_neg c2];exact Zhg _ x.r x.t _ _ _ _ _ false rfl (decide_eq_false c2) h1 h2 h3
end
def TXC:Jx:=TXB
theorem Zs:Qn Yir TXC:=Zih
end Go.Proofs.Ythdpfjffdipipaa

namespace Go.Ai
open Go.IntKind (i64 u64 u32)
structure Rt where
 fs:List Rn
 r:Rn
 e:Int
 t:Rn
 f:Int
def Rt.cs (x:Rt):List AV:=[.sl x.fs.length (pc x.fs),.bool x.r.1,.sl x.r.2.length (lm x.r.2),.int .i64 x.e,.bool x.t.1,.sl x.t.2.length (lm x.t.2),.int .i64 x.f]
def zR:Rt:=⟨[],z0,0,z0,0⟩
def rts:List Rt->List AV
 | []=>[]
 | x::l=>x.cs++rts l
theorem E6:∀ l:List Rt,(rts l).length=l.length*7
 | []=>rfl
 | x::l=>by
  have h:=E6 l;have e:x.cs.length=7:=rfl;simp only[rts,List.length_append,List.length_cons,Nat.add_mul];omega
theorem Fw:∀ l k:List Rt,rts (l++k)=rts l++rts k
 | [],_=>rfl
 | x::l,k=>by rw[List.cons_append,rts,rts,Fw l k,List.append_assoc]
theorem Ty:∀ (l:List Rt) (i:Nat),(rts l).drop (i*7)=rts (l.drop i)
 | [],i=>by simp[rts]
 | x::l,0=>rfl
 | x::l,i+1=>by
  rw[List.drop_succ_cons,<- Ty l i];have e:rts (x::l) = .sl x.fs.length (pc x.fs) :: .bool x.r.1 :: .sl x.r.2.length (lm x.r.2) :: .int .i64 x.e :: .bool x.t.1 :: .sl x.t.2.length (lm x.t.2) :: .int .i64 x.f::rts l:=rfl;rw[e,show (i+1)*7=i*7+1+1+1+1+1+1+1 by omega];simp only[List.drop_succ_cons]
theorem Zdj {l:List Rt} {X:Int} (h:0<=X/\X<(l.length:Int)):Qg (List.drop (Int.toNat X*7) (rts l)) 0 7 false=some (.agg (l.getD (Int.toNat X) zR).cs):=by
 have hl:=U0 h;rw[Ty,List.drop_eq_getElem_cons hl];have e:l.getD (Int.toNat X) zR=l[Int.toNat X]:=by rw[List.getD_eq_getElem?_getD,List.getElem?_eq_getElem hl];rfl
 rw[e];rfl
end Go.Ai

namespace Go.Proofs.Ythdpfjffdipipaa
open Go.IntKind (i64 u64 u32)
open Go.Ai
set_option maxRecDepth 100000
theorem Zl8 (r:Rn) (e z:Int) (c1:(decide (e>=0))=true) (c2:(decide (e<=64))=true) (n1:Zc Yir 37 [Z4 r] (.int .i64 z)):Zc Yir 61 [dyR r e] (.bool (decide (z<=128))):=Zc.go (fn:=Zvd) Zs rfl 400 rfl [.b true,.b true,.r (.int .i64 z)] (ac c1 (ac c2 (ac n1 a0)))
theorem Zl7 (r:Rn) (e:Int) (c1:(decide (e>=0))=true) (c2:(decide (e<=64))=false):Zc Yir 61 [dyR r e] (.bool false):=Zc.go (fn:=Zvd) Zs rfl 400 rfl [.b true,.b false] (ac c1 (ac c2 a0))
theorem Zl6 (r:Rn) (e:Int) (c1:(decide (e>=0))=false):Zc Yir 61 [dyR r e] (.bool false):=Zc.go (fn:=Zvd) Zs rfl 400 rfl [.b false,.b false] (ac c1 (ac (show false=false from rfl) a0))
theorem Za5 (ls:List (List Rn)) (r t:Rn) (e f x y m:Int) (c1:((i64.wrap (x-y))==0)=true):Zc Yir 97 [.sl ls.length (pp ls),dyR r e,dyR t f,.int .i64 x,.int .i64 y,.int .i64 m] (.frs (.tp true) 7 0 []):=Zc.go (fn:=Zui) Zs rfl 400 rfl [.b true] (ac c1 a0)
theorem Za4 (ls:List (List Rn)) (r t:Rn) (e f x y m:Int) (c1:((i64.wrap (x-y))==0)=false) (c2:((i64.wrap (x-y))==1)=true) (n1:0<=(0:Int)/\(0:Int)<(ls.length:Int)):Zc Yir 97 [.sl ls.length (pp ls),dyR r e,dyR t f,.int .i64 x,.int .i64 y,.int .i64 m] (.frs (.tp true) 7 1 [.sl ((ls.getD (Int.toNat 0) []).length) (pc (ls.getD (Int.toNat 0) [])),.bool r.1,.sl r.2.length (lm r.2),.int .i64 e,.bool t.1,.sl t.2.length (lm t.2),.int .i64 f]):=Zc.go (fn:=Zui) Zs rfl 400 rfl [.b false,.b true,.v (.sl ((ls.getD (Int.toNat 0) []).length) (pc (ls.getD (Int.toNat 0) [])))] (ac c1 (ac c2 (ac n1 (ac (V3 n1) a0))))
theorem Zk5 (ls:List (List Rn)) (r t:Rn) (e f x y m n g v:Int) (b1 b2:Bool) (k1 k2:Nat) (cs1 cs2:List AV) (c1:((i64.wrap (x-y))==0)=false) (c2:((i64.wrap (x-y))==1)=false) (c3:(decide (g>m))=false) (c4:(b1)=true) (n1:List.length cs2=k2*7) (n2:k1+k2<=1048576) (n3:Zc Yir 56 [dyR r e,dyR t f] (dyR (cn n) g)) (n4:Zc Yir 52 [.sl ls.length (pp ls),dyR (cn n) g] (.int .i64 v)) (n5:Zc Yir 97 [.sl ls.length (pp ls),dyR r e,dyR (cn n) g,.int .i64 x,.int .i64 v,.int .i64 m] (.frs (.tp b1) 7 k1 cs1)) (n6:Zc Yir 97 [.sl ls.length (pp ls),dyR (cn n) g,dyR t f,.int .i64 v,.int .i64 y,.int .i64 m] (.frs (.tp b2) 7 k2 cs2)):Zc Yir 97 [.sl ls.length (pp ls),dyR r e,dyR t f,.int .i64 x,.int .i64 y,.int .i64 m] (.frs (.tp b2) 7 (k1+k2) (cs1++cs2)):=Zc.go (fn:=Zui) Zs rfl 400 rfl [.b false,.b false,.r (dyR (cn n) g),.b false,.r (.int .i64 v),.r (.frs (.tp b1) 7 k1 cs1),.b false,.r (.frs (.tp b2) 7 k2 cs2)] (ac c1 (ac c2 (ac n3 (ac c3 (ac n4 (ac n5 (ac (show (!b1)=false from (by rw [c4];rfl)) (ac n6 (ac n1 (ac n2 a0))))))))))
theorem Zl5 (rs:List Rn) (ls:List (List Rn)) (r t:Rn) (e f m:Int) (c1:(decide ((ls.length:Int)<2))=true) (n1:Zc Yir 48 [.sl rs.length (pc rs)] (.fresh 1 ls.length (pp ls))):Zc Yir 62 [.sl rs.length (pc rs),dyR r e,dyR t f,.int .i64 m] (.frs (.tp true) 7 0 []):=Zc.go (fn:=Zwl) Zs rfl 400 rfl [.r (.fresh 1 ls.length (pp ls)),.b true] (ac n1 (ac c1 a0))
theorem Zl4 (rs:List Rn) (ls:List (List Rn)) (r t:Rn) (e f x y m:Int) (b:Bool) (n:Nat) (cs:List AV) (c1:(decide ((ls.length:Int)<2))=false) (n1:Zc Yir 48 [.sl rs.length (pc rs)] (.fresh 1 ls.length (pp ls))) (n2:Zc Yir 52 [.sl ls.length (pp ls),dyR r e] (.int .i64 x)) (n3:Zc Yir 52 [.sl ls.length (pp ls),dyR t f] (.int .i64 y)) (n4:Zc Yir 97 [.sl ls.length (pp ls),dyR r e,dyR t f,.int .i64 x,.int .i64 y,.int .i64 m] (.frs (.tp b) 7 n cs)):Zc Yir 62 [.sl rs.length (pc rs),dyR r e,dyR t f,.int .i64 m] (.tup [.sl n cs,.bool b]):=Zc.go (fn:=Zwl) Zs rfl 400 rfl [.r (.fresh 1 ls.length (pp ls)),.b false,.r (.int .i64 x),.r (.int .i64 y),.r (.frs (.tp b) 7 n cs)] (ac n1 (ac c1 (ac n2 (ac n3 (ac n4 a0)))))
def Zda (rs:List Rn) (l:List Rt) (k:Nat) (cs:List AV) (N:Int) (i:Int):Zg:=(.val (.sl rs.length (pc rs))::(dds 9 (.own 7 k cs::(dds 34 (.val (.sl l.length (rts l))::(.val (.int .i64 N)::(.val (.int .i64 i)::(dds 16 []))))))))
theorem Yk22_1 (rs:List Rn) (l:List Rt) (k:Nat) (cs:List AV) (N:Int) (i:Int) (ts:List Rn) (n m u v:Int) (sm:Bool) (c1:(decide (i<N))=true) (c2:(sm)=true) (n1:0<=i/\i<(l.length:Int)) (n2:k+1<=1048576) (n3:Zc Yir 60 [.sl (((l.getD (Int.toNat i) zR).fs).length) (pc ((l.getD (Int.toNat i) zR).fs))] (.bool sm)) (n4:Zc Yir 63 [rtA ((l.getD (Int.toNat i) zR).fs) ((l.getD (Int.toNat i) zR).r) ((l.getD (Int.toNat i) zR).e) ((l.getD (Int.toNat i) zR).t) ((l.getD (Int.toNat i) zR).f)] (rtA ts (cn n) m (cn u) v)):Za Yir Zv4 (Zda rs l k cs N i) .norm (Zda rs l (k+1) (cs++([.sl ts.length (pc ts),.bool ((cn n).1),.sl ((cn n).2.length) (lm (cn n).2),.int .i64 m,.bool ((cn u).1),.sl ((cn u).2.length) (lm (cn u).2),.int .i64 v]:List AV)) N (i64.wrap (i+1))):=(Za.go Zs 400 [.b true,.v (rtA ((l.getD (Int.toNat i) zR).fs) ((l.getD (Int.toNat i) zR).r) ((l.getD (Int.toNat i) zR).e) ((l.getD (Int.toNat i) zR).t) ((l.getD (Int.toNat i) zR).f)),.r (.bool sm),.b false,.r (rtA ts (cn n) m (cn u) v)] [0,10,45,46,47] (ac c1 (ac n1 (ac (Zdj n1) (ac n3 (ac (show (!sm)=false from (by rw [c2];rfl)) (ac n4 (ac (show List.length ([.sl ts.length (pc ts),.bool ((cn n).1),.sl ((cn n).2.length) (lm (cn n).2),.int .i64 m,.bool ((cn u).1),.sl ((cn u).2.length) (lm (cn u).2),.int .i64 v]:List AV)=1*7 from rfl) (ac n2 a0)))))))))
theorem Yk22_3 (rs:List Rn) (l:List Rt) (k:Nat) (cs:List AV) (N:Int) (i:Int)  (c1:(decide (i<N))=false):Za Yir Zv4 (Zda rs l k cs N i) (.exit 1) (Zda rs l k cs N i):=(Za.go Zs 400 [.b false] [0,10,45,46,47] (ac c1 a0))
theorem Zcq (rs:List Rn) (r t:Rn) (e f d c i:Int) (b v1 v2 ok:Bool) (l:List Rt) (k:Nat) (cs:List AV) (c1:(b)=true) (c2:(decide (d<0))=false) (c3:(v1)=true) (c4:(v2)=true) (c5:(decide (c>0))=false) (c6:(ok)=true) (n1:Zc Yir 60 [.sl rs.length (pc rs)] (.bool b)) (n2:Zc Yir 34 [.sl rs.length (pc rs)] (.int .i64 d)) (n3:Zc Yir 61 [dyR r e] (.bool v1)) (n4:Zc Yir 61 [dyR t f] (.bool v2)) (n5:Zc Yir 50 [dyR r e,dyR t f] (.int .i64 c)) (n6:Zc Yir 62 [.sl rs.length (pc rs),dyR r e,dyR t f,.int .i64 896] (.frs (.tp ok) 7 l.length (rts l))) (hl7:Za Yir (.loop Zv4) (Zda rs l 0 ([]:List AV) (l.length:Int) 0) (.exit 1) (Zda rs l k cs (l.length:Int) i)):Zc Yir 22 [.sl rs.length (pc rs),dyR r e,dyR t f] (.tup [.sl k cs,.int .i64 0]):=Zc.of_bodyW (fn:=Zwo) (s:=(dds 6 (.own 7 k cs::(.val (.int .i64 0)::(dds 56 []))))) (ex := .ret) rfl rfl (Za.asc (Za.asc (Za.asc (Za.asc (Za.csi (Za.seq (Za.go Zs 400 [.r (.bool b),.b false,.r (.int .i64 d),.b false,.r (.bool v1),.b false,.r (.bool v2),.b false,.r (.int .i64 c),.b false,.r (.frs (.tp ok) 7 l.length (rts l)),.b false] [0,10,45,46,47] (ac n1 (ac (show (!b)=false from (by rw [c1];rfl)) (ac n2 (ac c2 (ac n3 (ac (show (!v1)=false from (by rw [c3];rfl)) (ac n4 (ac (show (!v2)=false from (by rw [c4];rfl)) (ac n5 (ac c5 (ac n6 (ac (show (!ok)=false from (by rw [c6];rfl)) a0))))))))))))) (Za.seq (Za.block hl7) (Za.go Zs 400 [] [6,7] a0)))))))) (by nofun) rfl
theorem Zcp (rs:List Rn) (r t:Rn) (e f d c i:Int) (b v1 v2 ok:Bool) (l:List Rt) (k:Nat) (cs:List AV) (c1:(b)=true) (c2:(decide (d<0))=false) (c3:(v1)=true) (c4:(v2)=true) (c5:(decide (c>0))=false) (c6:(ok)=true) (n1:Zc Yir 60 [.sl rs.length (pc rs)] (.bool b)) (n2:Zc Yir 34 [.sl rs.length (pc rs)] (.int .i64 d)) (n3:Zc Yir 61 [dyR r e] (.bool v1)) (n4:Zc Yir 61 [dyR t f] (.bool v2)) (n5:Zc Yir 50 [dyR r e,dyR t f] (.int .i64 c)) (n6:Zc Yir 62 [.sl rs.length (pc rs),dyR r e,dyR t f,.int .i64 896] (.tup [.sl l.length (rts l),.bool ok])) (hl7:Za Yir (.loop Zv4) (Zda rs l 0 ([]:List AV) (l.length:Int) 0) (.exit 1) (Zda rs l k cs (l.length:Int) i)):Zc Yir 22 [.sl rs.length (pc rs),dyR r e,dyR t f] (.tup [.sl k cs,.int .i64 0]):=Zc.of_bodyW (fn:=Zwo) (s:=(dds 6 (.own 7 k cs::(.val (.int .i64 0)::(dds 56 []))))) (ex := .ret) rfl rfl (Za.asc (Za.asc (Za.asc (Za.asc (Za.csi (Za.seq (Za.go Zs 400 [.r (.bool b),.b false,.r (.int .i64 d),.b false,.r (.bool v1),.b false,.r (.bool v2),.b false,.r (.int .i64 c),.b false,.r (.tup [.sl l.length (rts l),.bool ok]),.b false] [0,10,45,46,47] (ac n1 (ac (show (!b)=false from (by rw [c1];rfl)) (ac n2 (ac c2 (ac n3 (ac (show (!v1)=false from (by rw [c3];rfl)) (ac n4 (ac (show (!v2)=false from (by rw [c4];rfl)) (ac n5 (ac c5 (ac n6 (ac (show (!ok)=false from (by rw [c6];rfl)) a0))))))))))))) (Za.seq (Za.block hl7) (Za.go Zs 400 [] [6,7] a0)))))))) (by nofun) rfl
theorem Zrm (rs:List Rn) (ls:List (List Rn)) (r t:Rn) (e f x y:Int) (n1:Zc Yir 48 [.sl rs.length (pc rs)] (.fresh 1 ls.length (pp ls))) (n2:Zc Yir 52 [.sl ls.length (pp ls),dyR r e] (.int .i64 x)) (n3:Zc Yir 52 [.sl ls.length (pp ls),dyR t f] (.int .i64 y)):Zc Yir 129 [.sl rs.length (pc rs),dyR r e,dyR t f] (.int .i64 (i64.wrap (x-y))):=Zc.go (fn:=Zh1) Zs rfl 400 rfl [.r (.fresh 1 ls.length (pp ls)),.r (.int .i64 x),.r (.int .i64 y)] (ac n1 (ac n2 (ac n3 a0)))
theorem P8 (fs:List Rn) (r t:Rn) (e f:Int) (gs:List Rn) (p q:Rn) (c d:Int) (hs:List Rn) (c_pr c_qt c_rt x:Int) (b1 b2:Bool) (c1:(b1)=false) (c2:(b2)=false) (c3:(decide (c_pr>0))=false) (c4:(decide (c_qt<0))=false) (c5:(decide (c_rt>=0))=false) (c6:(decide ((hs.length:Int)>1))=true) (n1:Zc Yir 127 [rtA fs r e t f] (.bool b1)) (n2:Zc Yir 127 [rtA gs p c q d] (.bool b2)) (n3:Zc Yir 50 [dyR p c,dyR r e] (.int .i64 c_pr)) (n4:Zc Yir 50 [dyR q d,dyR t f] (.int .i64 c_qt)) (n5:Zc Yir 50 [dyR r e,dyR t f] (.int .i64 c_rt)) (n6:Zc Yir 71 [.sl fs.length (pc fs),.sl gs.length (pc gs)] (.sl hs.length (pc hs))) (n7:Zc Yir 129 [.sl hs.length (pc hs),dyR r e,dyR t f] (.int .i64 x)):Zc Yir 100 [rtA fs r e t f,rtA gs p c q d] (.bool (decide (x>0))):=Zc.go (fn:=Rb) Zs rfl 400 rfl [.r (.bool b1),.b false,.r (.bool b2),.b false,.r (.int .i64 c_pr),.b false,.r (.int .i64 c_qt),.b false,.r (.int .i64 c_rt),.b false,.r (.sl hs.length (pc hs)),.b true,.r (.int .i64 x)] (ac n1 (ac c1 (ac n2 (ac c2 (ac n3 (ac c3 (ac n4 (ac c4 (ac n5 (ac c5 (ac n6 (ac c6 (ac n7 a0)))))))))))))
theorem P7 (fs:List Rn) (r t:Rn) (e f:Int) (gs:List Rn) (p q:Rn) (c d:Int) (hs:List Rn) (c_pr c_qt c_rt:Int) (b1 b2:Bool) (c1:(b1)=false) (c2:(b2)=false) (c3:(decide (c_pr>0))=false) (c4:(decide (c_qt<0))=false) (c5:(decide (c_rt>=0))=false) (c6:(decide ((hs.length:Int)>1))=false) (n1:Zc Yir 127 [rtA fs r e t f] (.bool b1)) (n2:Zc Yir 127 [rtA gs p c q d] (.bool b2)) (n3:Zc Yir 50 [dyR p c,dyR r e] (.int .i64 c_pr)) (n4:Zc Yir 50 [dyR q d,dyR t f] (.int .i64 c_qt)) (n5:Zc Yir 50 [dyR r e,dyR t f] (.int .i64 c_rt)) (n6:Zc Yir 71 [.sl fs.length (pc fs),.sl gs.length (pc gs)] (.sl hs.length (pc hs))):Zc Yir 100 [rtA fs r e t f,rtA gs p c q d] (.bool false):=Zc.go (fn:=Rb) Zs rfl 400 rfl [.r (.bool b1),.b false,.r (.bool b2),.b false,.r (.int .i64 c_pr),.b false,.r (.int .i64 c_qt),.b false,.r (.int .i64 c_rt),.b false,.r (.sl hs.length (pc hs)),.b false] (ac n1 (ac c1 (ac n2 (ac c2 (ac n3 (ac c3 (ac n4 (ac c4 (ac n5 (ac c5 (ac n6 (ac c6 a0))))))))))))
theorem Ra (fs:List Rn) (r t:Rn) (e f:Int) (gs:List Rn) (p q:Rn) (c d:Int) (hs:List Rn) (c_pr c_qt c_rt x:Int) (b1 b2:Bool) (c1:(b1)=false) (c2:(b2)=false) (c3:(decide (c_pr>0))=false) (c4:(decide (c_qt<0))=false) (c5:(decide (c_rt>=0))=false) (c6:(decide ((hs.length:Int)>1))=true) (n1:Zc Yir 127 [rtA fs r e t f] (.bool b1)) (n2:Zc Yir 127 [rtA gs p c q d] (.bool b2)) (n3:Zc Yir 50 [dyR p c,dyR r e] (.int .i64 c_pr)) (n4:Zc Yir 50 [dyR q d,dyR t f] (.int .i64 c_qt)) (n5:Zc Yir 50 [dyR r e,dyR t f] (.int .i64 c_rt)) (n6:Zc Yir 71 [.sl fs.length (pc fs),.sl gs.length (pc gs)] (.fresh 2 hs.length (pc hs))) (n7:Zc Yir 129 [.sl hs.length (pc hs),dyR r e,dyR t f] (.int .i64 x)):Zc Yir 100 [rtA fs r e t f,rtA gs p c q d] (.bool (decide (x>0))):=Zc.go (fn:=Rb) Zs rfl 400 rfl [.r (.bool b1),.b false,.r (.bool b2),.b false,.r (.int .i64 c_pr),.b false,.r (.int .i64 c_qt),.b false,.r (.int .i64 c_rt),.b false,.r (.fresh 2 hs.length (pc hs)),.b true,.r (.int .i64 x)] (ac n1 (ac c1 (ac n2 (ac c2 (ac n3 (ac c3 (ac n4 (ac c4 (ac n5 (ac c5 (ac n6 (ac c6 (ac n7 a0)))))))))))))
theorem P9 (fs:List Rn) (r t:Rn) (e f:Int) (gs:List Rn) (p q:Rn) (c d:Int) (hs:List Rn) (c_pr c_qt c_rt:Int) (b1 b2:Bool) (c1:(b1)=false) (c2:(b2)=false) (c3:(decide (c_pr>0))=false) (c4:(decide (c_qt<0))=false) (c5:(decide (c_rt>=0))=false) (c6:(decide ((hs.length:Int)>1))=false) (n1:Zc Yir 127 [rtA fs r e t f] (.bool b1)) (n2:Zc Yir 127 [rtA gs p c q d] (.bool b2)) (n3:Zc Yir 50 [dyR p c,dyR r e] (.int .i64 c_pr)) (n4:Zc Yir 50 [dyR q d,dyR t f] (.int .i64 c_qt)) (n5:Zc Yir 50 [dyR r e,dyR t f] (.int .i64 c_rt)) (n6:Zc Yir 71 [.sl fs.length (pc fs),.sl gs.length (pc gs)] (.fresh 2 hs.length (pc hs))):Zc Yir 100 [rtA fs r e t f,rtA gs p c q d] (.bool false):=Zc.go (fn:=Rb) Zs rfl 400 rfl [.r (.bool b1),.b false,.r (.bool b2),.b false,.r (.int .i64 c_pr),.b false,.r (.int .i64 c_qt),.b false,.r (.int .i64 c_rt),.b false,.r (.fresh 2 hs.length (pc hs)),.b false] (ac n1 (ac c1 (ac n2 (ac c2 (ac n3 (ac c3 (ac n4 (ac c4 (ac n5 (ac c5 (ac n6 (ac c6 a0))))))))))))
def Zgq (o:Int) (fs:List Rn) (r:Rn) (e:Int) (t:Rn) (f:Int) (gs:List Rn) (p:Rn) (c:Int) (q:Rn) (d:Int):Zg:=(dds 2 (rtB fs r e t f::(rtB gs p c q d::(.val (.int .i64 o)::(dds 31 [])))))
theorem Yk65_1 (o:Int) (fs:List Rn) (r:Rn) (e:Int) (t:Rn) (f:Int) (gs:List Rn) (p:Rn) (c:Int) (q:Rn) (d:Int) (c_tp:Int) (c1:(decide (c_tp<=0))=true) (n1:Zc Yir 50 [dyR t f,dyR p c] (.int .i64 c_tp)):Za Yir Zv3 (Zgq o fs r e t f gs p c q d) .ret (Zgq (-1) fs r e t f gs p c q d):=(Za.go Zs 400 [.r (.int .i64 c_tp),.b true] [2,3,4] (ac n1 (ac c1 a0)))
theorem Yk65_2 (o:Int) (fs:List Rn) (r:Rn) (e:Int) (t:Rn) (f:Int) (gs:List Rn) (p:Rn) (c:Int) (q:Rn) (d:Int) (c_tp c_qr:Int) (c1:(decide (c_tp<=0))=false) (c2:(decide (c_qr<=0))=true) (n1:Zc Yir 50 [dyR t f,dyR p c] (.int .i64 c_tp)) (n2:Zc Yir 50 [dyR q d,dyR r e] (.int .i64 c_qr)):Za Yir Zv3 (Zgq o fs r e t f gs p c q d) .ret (Zgq 1 fs r e t f gs p c q d):=(Za.go Zs 400 [.r (.int .i64 c_tp),.b false,.r (.int .i64 c_qr),.b true] [2,3,4] (ac n1 (ac c1 (ac n2 (ac c2 a0)))))
theorem Yk65_3 (o:Int) (fs:List Rn) (r:Rn) (e:Int) (t:Rn) (f:Int) (gs:List Rn) (p:Rn) (c:Int) (q:Rn) (d:Int) (c_tp c_qr:Int) (fs1 gs1:List Rn) (r1 t1 p1 q1:Rn) (e1 f1 g1 h1:Int) (c1:(decide (c_tp<=0))=false) (c2:(decide (c_qr<=0))=false) (n1:Zc Yir 50 [dyR t f,dyR p c] (.int .i64 c_tp)) (n2:Zc Yir 50 [dyR q d,dyR r e] (.int .i64 c_qr)) (n3:Zc Yir 101 [rtA fs r e t f] (rtA fs1 r1 e1 t1 f1)) (n4:Zc Yir 101 [rtA gs p c q d] (rtA gs1 p1 g1 q1 h1)):Za Yir Zv3 (Zgq o fs r e t f gs p c q d) .norm (Zgq o fs1 r1 e1 t1 f1 gs1 p1 g1 q1 h1):=(Za.go Zs 400 [.r (.int .i64 c_tp),.b false,.r (.int .i64 c_qr),.b false,.r (rtA fs1 r1 e1 t1 f1),.r (rtA gs1 p1 g1 q1 h1)] [2,3,4] (ac n1 (ac c1 (ac n2 (ac c2 (ac n3 (ac n4 a0)))))))
theorem Zl3 (fs:List Rn) (r t:Rn) (e f:Int) (gs:List Rn) (p q:Rn) (c d:Int) (c_tp c_qr:Int) (eq:Bool) (c1:(decide (c_tp<0))=false) (c2:(decide (c_qr<0))=false) (c3:(eq)=true) (n1:Zc Yir 50 [dyR t f,dyR p c] (.int .i64 c_tp)) (n2:Zc Yir 50 [dyR q d,dyR r e] (.int .i64 c_qr)) (n3:Zc Yir 100 [rtA fs r e t f,rtA gs p c q d] (.bool eq)):Zc Yir 65 [rtA fs r e t f,rtA gs p c q d] (.int .i64 0):=Zc.of_bodyW (fn:=Zwk) (s:=(dds 4 (.val (.int .i64 0)::(dds 31 [])))) (ex := .ret) rfl rfl (Za.asc (Za.asc (Za.asc (Za.seq_out (Za.go Zs 400 [.r (.int .i64 c_tp),.b false,.r (.int .i64 c_qr),.b false,.r (.bool eq),.b true] [4] (ac n1 (ac c1 (ac n2 (ac c2 (ac n3 (ac c3 a0))))))) (by nofun))))) (by nofun) rfl
theorem Zl2 (fs:List Rn) (r t:Rn) (e f:Int) (gs:List Rn) (p q:Rn) (c d:Int) (c_tp c_qr z:Int) (eq:Bool) (fs1 gs1:List Rn) (r1 t1 p1 q1:Rn) (e1 f1 g1 h1:Int) (c1:(decide (c_tp<0))=false) (c2:(decide (c_qr<0))=false) (c3:(eq)=false) (n1:Zc Yir 50 [dyR t f,dyR p c] (.int .i64 c_tp)) (n2:Zc Yir 50 [dyR q d,dyR r e] (.int .i64 c_qr)) (n3:Zc Yir 100 [rtA fs r e t f,rtA gs p c q d] (.bool eq)) (hl4:Za Yir (.loop Zv3) (Zgq 0 fs r e t f gs p c q d) .ret (Zgq z fs1 r1 e1 t1 f1 gs1 p1 g1 q1 h1)):Zc Yir 65 [rtA fs r e t f,rtA gs p c q d] (.int .i64 z):=Zc.of_bodyW (fn:=Zwk) (s:=(dds 2 (rtB fs1 r1 e1 t1 f1::(rtB gs1 p1 g1 q1 h1::(.val (.int .i64 z)::(dds 31 [])))))) (ex := .ret) rfl rfl (Za.asc (Za.asc (Za.asc (Za.seq (Za.go Zs 400 [.r (.int .i64 c_tp),.b false,.r (.int .i64 c_qr),.b false,.r (.bool eq),.b false] [2,3,4] (ac n1 (ac c1 (ac n2 (ac c2 (ac n3 (ac c3 a0))))))) (Za.block_ret hl4))))) (by nofun) rfl
theorem Zmn (fs:List Rn) (r t:Rn) (e f:Int) (gs:List Rn) (p q:Rn) (c d:Int) (fs1 gs1:List Rn) (z:Int) (v1 v2:Bool) (c1:(v1)=true) (c2:(v2)=true) (n1:Zc Yir 59 [rtA fs r e t f] (.bool v1)) (n2:Zc Yir 59 [rtA gs p c q d] (.bool v2)) (n3:Zc Yir 66 [rtA fs r e t f] (rtA fs1 r e t f)) (n4:Zc Yir 66 [rtA gs p c q d] (rtA gs1 p c q d)) (n5:Zc Yir 65 [rtA fs1 r e t f,rtA gs1 p c q d] (.int .i64 z)):Zc Yir 25 [rtA fs r e t f,rtA gs p c q d] (.tup [.int .i64 z,.int .i64 0]):=Zc.go (fn:=Yi25) Zs rfl 400 rfl [.r (.bool v1),.b false,.r (.bool v2),.b false,.r (rtA fs1 r e t f),.r (rtA gs1 p c q d),.r (.int .i64 z)] (ac n1 (ac (show (!v1)=false from (by rw [c1];rfl)) (ac n2 (ac (show (!v2)=false from (by rw [c2];rfl)) (ac n3 (ac n4 (ac n5 a0)))))))
def Ey (xs:List Int) (n:Int):Zg:=(.val (.sl xs.length (lm xs))::(dds 2 (.val (.int .i64 n)::(dds 17 []))))
theorem Zso (xs:List Int) (n:Int)  (c1:(decide (n>0))=true) (c2:((xs.getD (Int.toNat (i64.wrap (n-1))) 0)==0)=true) (n1:0<=(i64.wrap (n-1))/\(i64.wrap (n-1))<(xs.length:Int)):Za Yir Zc3 (Ey xs n) .norm (Ey xs (i64.wrap (n-1))):=(Za.go Zs 400 [.b true,.v (.int .u32 (xs.getD (Int.toNat (i64.wrap (n-1))) 0)),.b true] [0,3] (ac c1 (ac n1 (ac (Qe n1) (ac c2 a0)))))
theorem Zsn (xs:List Int) (n:Int)  (c1:(decide (n>0))=true) (c2:((xs.getD (Int.toNat (i64.wrap (n-1))) 0)==0)=false) (n1:0<=(i64.wrap (n-1))/\(i64.wrap (n-1))<(xs.length:Int)):Za Yir Zc3 (Ey xs n) (.exit 0) (Ey xs n):=(Za.go Zs 400 [.b true,.v (.int .u32 (xs.getD (Int.toNat (i64.wrap (n-1))) 0)),.b false] [0,3] (ac c1 (ac n1 (ac (Qe n1) (ac c2 a0)))))
theorem Zsm (xs:List Int) (n:Int)  (c1:(decide (n>0))=false):Za Yir Zc3 (Ey xs n) (.exit 0) (Ey xs n):=(Za.go Zs 400 [.b false,.b false] [0,3] (ac c1 (ac (show false=false from rfl) a0)))
theorem Zrh (xs:List Int) (n:Int) (hl1:Za Yir (.loop Zc3) (Ey xs (xs.length:Int)) (.exit 0) (Ey xs n)) (n2:0<=n) (n3:0<=(Int.toNat n)/\(Int.toNat n)<=xs.length/\xs.length<=xs.length/\(false=true->true=true)):Zc Yir 143 [.sl xs.length (lm xs)] (.sl ((Int.toNat n)-0) (List.take (((Int.toNat n)-0)*1) (List.drop (0*1) (lm xs)))):=Zc.of_bodyW (fn:=Zhw) (s:=(dds 2 (.val (.sl ((Int.toNat n)-0) (List.take (((Int.toNat n)-0)*1) (List.drop (0*1) (lm xs))))::(dds 18 [])))) (ex := .ret) rfl rfl (Za.asc (Za.seq (Za.go Zs 400 [] [0,3] a0) (Za.seq (Za.block hl1) (Za.go Zs 400 [] [2] (ac n2 (ac n3 a0)))))) (by nofun) rfl
theorem Zhf (r:Rn) (e k z:Int) (c1:(decide (k>=e))=true) (n1:Zc Yir 79 [Z4 r,.int .i64 (i64.wrap (k-e))] (Zi z)):Zc Yir 102 [dyR r e,.int .i64 k] (Zi z):=Zc.go (fn:=Zc1) Zs rfl 400 rfl [.b true,.r (Zi z)] (ac c1 (ac n1 a0))
theorem Zhe (r:Rn) (e k z:Int) (c1:(decide (k>=e))=false) (n1:Zc Yir 125 [Z4 r,.int .i64 (i64.wrap (e-k))] (Zi z)):Zc Yir 102 [dyR r e,.int .i64 k] (Zi z):=Zc.go (fn:=Zc1) Zs rfl 400 rfl [.b false,.r (Zi z)] (ac c1 (ac n1 a0))
def Sw (o:Rn) (fs:List Rn) (r:Rn) (e:Int) (t:Rn) (f:Int) (k:Int):Zg:=(dds 1 (.val (.int .i64 k)::(rtB fs r e t f::(dds 1 (.box [.bool o.1,.sl o.2.length (lm o.2)]::(dds 31 []))))))
theorem Yk67_1 (o:Rn) (fs:List Rn) (r:Rn) (e:Int) (t:Rn) (f:Int) (k:Int) (lo hi s:Int) (c1:(s==0)=true) (n1:Zc Yir 102 [dyR r e,.int .i64 k] (Zi lo)) (n2:Zc Yir 102 [dyR t f,.int .i64 k] (Zi hi)) (n3:Zc Yir 103 [Zi hi,Zi lo] (Zi (hi-lo))) (n4:Zc Yir 74 [Zi (hi-lo)] (.int .i64 s)):Za Yir Zoj (Sw o fs r e t f k) .ret (Sw (cn lo) fs r e t f k):=(Za.go Zs 400 [.r (Zi lo),.r (Zi hi),.r (Zi (hi-lo)),.r (.int .i64 s),.b true] [1,2,4] (ac n1 (ac n2 (ac n3 (ac n4 (ac c1 a0))))))
theorem Yk67_2 (o:Rn) (fs:List Rn) (r:Rn) (e:Int) (t:Rn) (f:Int) (k:Int) (lo hi s z y:Int) (c1:(s==0)=false) (c2:(z==1)=true) (c3:(decide (y>=0))=true) (n1:Zc Yir 102 [dyR r e,.int .i64 k] (Zi lo)) (n2:Zc Yir 102 [dyR t f,.int .i64 k] (Zi hi)) (n3:Zc Yir 103 [Zi hi,Zi lo] (Zi (hi-lo))) (n4:Zc Yir 74 [Zi (hi-lo)] (.int .i64 s)) (n5:Zc Yir 37 [Zi (hi-lo)] (.int .i64 z)) (n6:Zc Yir 94 [rtA fs r e t f,dyR (cn hi) k] (.int .i64 y)):Za Yir Zoj (Sw o fs r e t f k) .ret (Sw (cn hi) fs r e t f k):=(Za.go Zs 400 [.r (Zi lo),.r (Zi hi),.r (Zi (hi-lo)),.r (.int .i64 s),.b false,.r (.int .i64 z),.b true,.r (.int .i64 y),.b true] [1,2,4] (ac n1 (ac n2 (ac n3 (ac n4 (ac c1 (ac n5 (ac c2 (ac n6 (ac c3 a0))))))))))
theorem Yk67_3 (o:Rn) (fs:List Rn) (r:Rn) (e:Int) (t:Rn) (f:Int) (k:Int) (lo hi s z y:Int) (c1:(s==0)=false) (c2:(z==1)=true) (c3:(decide (y>=0))=false) (n1:Zc Yir 102 [dyR r e,.int .i64 k] (Zi lo)) (n2:Zc Yir 102 [dyR t f,.int .i64 k] (Zi hi)) (n3:Zc Yir 103 [Zi hi,Zi lo] (Zi (hi-lo))) (n4:Zc Yir 74 [Zi (hi-lo)] (.int .i64 s)) (n5:Zc Yir 37 [Zi (hi-lo)] (.int .i64 z)) (n6:Zc Yir 94 [rtA fs r e t f,dyR (cn hi) k] (.int .i64 y)):Za Yir Zoj (Sw o fs r e t f k) .ret (Sw (cn lo) fs r e t f k):=(Za.go Zs 400 [.r (Zi lo),.r (Zi hi),.r (Zi (hi-lo)),.r (.int .i64 s),.b false,.r (.int .i64 z),.b true,.r (.int .i64 y),.b false] [1,2,4] (ac n1 (ac n2 (ac n3 (ac n4 (ac c1 (ac n5 (ac c2 (ac n6 (ac c3 a0))))))))))
theorem Yk67_4 (o:Rn) (fs:List Rn) (r:Rn) (e:Int) (t:Rn) (f:Int) (k:Int) (lo hi s z:Int) (fs1:List Rn) (r1 t1:Rn) (e1 f1:Int) (c1:(s==0)=false) (c2:(z==1)=false) (n1:Zc Yir 102 [dyR r e,.int .i64 k] (Zi lo)) (n2:Zc Yir 102 [dyR t f,.int .i64 k] (Zi hi)) (n3:Zc Yir 103 [Zi hi,Zi lo] (Zi (hi-lo))) (n4:Zc Yir 74 [Zi (hi-lo)] (.int .i64 s)) (n5:Zc Yir 37 [Zi (hi-lo)] (.int .i64 z)) (n6:Zc Yir 101 [rtA fs r e t f] (rtA fs1 r1 e1 t1 f1)):Za Yir Zoj (Sw o fs r e t f k) .norm (Sw o fs1 r1 e1 t1 f1 k):=(Za.go Zs 400 [.r (Zi lo),.r (Zi hi),.r (Zi (hi-lo)),.r (.int .i64 s),.b false,.r (.int .i64 z),.b false,.r (rtA fs1 r1 e1 t1 f1)] [1,2,4] (ac n1 (ac n2 (ac n3 (ac n4 (ac c1 (ac n5 (ac c2 (ac n6 a0)))))))))
theorem Yrun67 (fs:List Rn) (r t:Rn) (e f:Int) (k n:Int) (fs1:List Rn) (r1 t1:Rn) (e1 f1:Int) (hl1:Za Yir (.loop Zoj) (Sw (false,[]) fs r e t f k) .ret (Sw (cn n) fs1 r1 e1 t1 f1 k)):Zc Yir 67 [rtA fs r e t f,.int .i64 k] (Z4 (cn n)):=Zc.of_bodyW (fn:=Yi67) (s:=(dds 1 (.val (.int .i64 k)::(rtB fs1 r1 e1 t1 f1::(dds 1 (.box [.bool ((cn n).1),.sl ((cn n).2.length) (lm (cn n).2)]::(dds 31 []))))))) (ex := .ret) rfl rfl (Za.seq (Za.go Zs 400 [] [1,2,4] a0) (Za.block_ret hl1)) (by nofun) rfl
theorem Zmm (fs:List Rn) (r t:Rn) (e f:Int) (k n:Int) (fs1:List Rn) (v1:Bool) (c1:(v1)=true) (c2:(decide (k<0))=false) (c3:(decide (k>64))=false) (n1:Zc Yir 59 [rtA fs r e t f] (.bool v1)) (n2:Zc Yir 66 [rtA fs r e t f] (rtA fs1 r e t f)) (n3:Zc Yir 67 [rtA fs1 r e t f,.int .i64 k] (Zi n)):Zc Yir 26 [rtA fs r e t f,.int .i64 k] (.tup [Zi n,.int .i64 0]):=Zc.go (fn:=Yi26) Zs rfl 400 rfl [.r (.bool v1),.b false,.b false,.b false,.r (rtA fs1 r e t f),.r (Zi n)] (ac n1 (ac (show (!v1)=false from (by rw [c1];rfl)) (ac c2 (ac c3 (ac n2 (ac n3 a0))))))
theorem Zps (n e:Int) (n1:Zc Yir 47 [.int .i64 n] (Zi n)):Zc Yir 24 [.int .i64 n,.int .i64 e] (dyR (cn n) e):=Zc.go (fn:=Yi24) Zs rfl 400 rfl [.r (Zi n)] (ac n1 a0)
def Zpp (xs:List Int) (k:Nat) (cs:List AV) (i:Int):Zg:=(.val (.sl xs.length (li xs))::(dds 1 (.own 2 0 []::(.own 2 k cs::(.val (.int .i64 i)::(dds 16 []))))))
theorem Yk23_1 (xs:List Int) (k:Nat) (cs:List AV) (i:Int)  (c1:(decide (i<(xs.length:Int)))=true) (n1:0<=i/\i<(xs.length:Int)) (n2:k+1<=1048576) (n3:Zc Yir 47 [.int .i64 (xs.getD (Int.toNat i) 0)] (Zi (xs.getD (Int.toNat i) 0))):Za Yir Yc23 (Zpp xs k cs i) .norm (Zpp xs (k+1) (cs++([.bool (decide ((xs.getD (Int.toNat i) 0)<0)),.sl ((Zb (Int.natAbs (xs.getD (Int.toNat i) 0))).length) (lm (Zb (Int.natAbs (xs.getD (Int.toNat i) 0))))]:List AV)) (i64.wrap (i+1))):=(Za.go Zs 400 [.b true,.v (.int .i64 (xs.getD (Int.toNat i) 0)),.r (Zi (xs.getD (Int.toNat i) 0))] [0,2,3,4] (ac c1 (ac n1 (ac (Zjc n1) (ac n3 (ac (show List.length ([.bool (decide ((xs.getD (Int.toNat i) 0)<0)),.sl ((Zb (Int.natAbs (xs.getD (Int.toNat i) 0))).length) (lm (Zb (Int.natAbs (xs.getD (Int.toNat i) 0))))]:List AV)=1*2 from rfl) (ac n2 a0)))))))
theorem Yk23_2 (xs:List Int) (k:Nat) (cs:List AV) (i:Int)  (c1:(decide (i<(xs.length:Int)))=false):Za Yir Yc23 (Zpp xs k cs i) (.exit 0) (Zpp xs k cs i):=(Za.go Zs 400 [.b false] [0,2,3,4] (ac c1 a0))
theorem Yrun23 (xs:List Int) (os ts:List Rn) (i:Int) (k:Nat) (hl1:Za Yir (.loop Yc23) (Zpp xs 0 ([]:List AV) 0) (.exit 0) (Zpp xs k (pc os) i)) (n2:Zc Yir 64 [.sl k (pc os)] (.fresh 2 ts.length (pc ts))):Zc Yir 23 [.sl xs.length (li xs)] (.fresh 2 ts.length (pc ts)):=Zc.of_bodyW (fn:=Yi23) (s:=(dds 2 (.own 2 ts.length (pc ts)::(dds 18 [])))) (ex := .ret) rfl rfl (Za.asc (Za.csi (Za.seq (Za.go Zs 400 [] [0,2,3,4] a0) (Za.seq (Za.block hl1) (Za.go Zs 400 [.r (.fresh 2 ts.length (pc ts))] [2] (ac n2 a0)))))) (by nofun) rfl
theorem Zci (a b:Int) (c4:(decide (a<1))=true) (n1:Zc Yir 21 [] (.bool true)):Zc Yir 6 [.int .i64 a,.int .i64 b] (.bool true):=Zc.go (fn:=Yi6) Zs rfl 400 rfl [.r (.bool true),.b false,.b true,.b true,.b true,.b true,.r (.bool true)] (ac n1 (ac (show false=false from rfl) (ac c4 (ac (show true=true from rfl) (ac (show true=true from rfl) (ac (show true=true from rfl) (ac n1 a0)))))))
theorem Zch (a b:Int) (c4:(decide (a<1))=false) (c5:(decide (b<1))=true) (n1:Zc Yir 21 [] (.bool true)):Zc Yir 6 [.int .i64 a,.int .i64 b] (.bool true):=Zc.go (fn:=Yi6) Zs rfl 400 rfl [.r (.bool true),.b false,.b false,.b true,.b true,.b true,.r (.bool true)] (ac n1 (ac (show false=false from rfl) (ac c4 (ac c5 (ac (show true=true from rfl) (ac (show true=true from rfl) (ac n1 a0)))))))
theorem Zcg (a b:Int) (c4:(decide (a<1))=false) (c5:(decide (b<1))=false) (c6:(decide (a>1048576))=true) (n1:Zc Yir 21 [] (.bool true)):Zc Yir 6 [.int .i64 a,.int .i64 b] (.bool true):=Zc.go (fn:=Yi6) Zs rfl 400 rfl [.r (.bool true),.b false,.b false,.b false,.b true,.b true,.r (.bool true)] (ac n1 (ac (show false=false from rfl) (ac c4 (ac c5 (ac c6 (ac (show true=true from rfl) (ac n1 a0)))))))
theorem Zcf (a b:Int) (c4:(decide (a<1))=false) (c5:(decide (b<1))=false) (c6:(decide (a>1048576))=false) (c7:(decide (b>1048576))=true) (n1:Zc Yir 21 [] (.bool true)):Zc Yir 6 [.int .i64 a,.int .i64 b] (.bool true):=Zc.go (fn:=Yi6) Zs rfl 400 rfl [.r (.bool true),.b false,.b false,.b false,.b false,.b true,.r (.bool true)] (ac n1 (ac (show false=false from rfl) (ac c4 (ac c5 (ac c6 (ac c7 (ac n1 a0)))))))
theorem Zce (ps qs:List Rn) (fs:List Rn) (r t:Rn) (e f:Int) (gs:List Rn) (p q:Rn) (c d:Int) (a b n_:Int) (c1:(decide ((((Zb (Int.natAbs n_)).length:Nat):Int)>0))=true) (c2:(decide (a<b))=true) (c3:(decide (a>b))=false) (c4:(decide (a<1))=false) (c5:(decide (b<1))=false) (c6:(decide (a>1048576))=false) (c7:(decide (b>1048576))=false) (c8:(decide ((i64.wrap ((i64.wrap ((Zb (Int.natAbs n_)).getD (Int.toNat 0) 0))*(i64.wrap ((Zb (Int.natAbs n_)).getD (Int.toNat 0) 0))))<=(i64.wrap (256*a))))=true) (n1:0<=(0:Int)/\(0:Int)<(((Zb (Int.natAbs n_)).length:Nat):Int)) (n2:Zc Yir 21 [] (.bool true)) (n3:Zc Yir 23 [.sl 3 [.int .i64 (i64.wrap (0-a)),.int .i64 0,.int .i64 1]] (.fresh 2 ps.length (pc ps))) (n4:Zc Yir 24 [.int .i64 0,.int .i64 0] (dyR (cn 0) 0)) (n5:Zc Yir 24 [.int .i64 2000,.int .i64 0] (dyR (cn 2000) 0)) (n6:Zc Yir 22 [.sl ps.length (pc ps),dyR (cn 0) 0,dyR (cn 2000) 0] (.tup [.sl 1 [.sl fs.length (pc fs),.bool r.1,.sl r.2.length (lm r.2),.int .i64 e,.bool t.1,.sl t.2.length (lm t.2),.int .i64 f],.int .i64 0])) (n7:Zc Yir 23 [.sl 5 [.int .i64 (i64.wrap ((i64.wrap (0-b))*b)),.int .i64 0,.int .i64 0,.int .i64 0,.int .i64 1]] (.fresh 2 qs.length (pc qs))) (n8:Zc Yir 22 [.sl qs.length (pc qs),dyR (cn 0) 0,dyR (cn 2000) 0] (.tup [.sl 1 [.sl gs.length (pc gs),.bool p.1,.sl p.2.length (lm p.2),.int .i64 c,.bool q.1,.sl q.2.length (lm q.2),.int .i64 d],.int .i64 0])) (n9:Zc Yir 25 [rtA fs r e t f,rtA gs p c q d] (.tup [.int .i64 (-1),.int .i64 0])) (n10:Zc Yir 26 [rtA fs r e t f,.int .i64 4] (.tup [Zi n_,.int .i64 0])):Zc Yir 6 [.int .i64 a,.int .i64 b] (.bool (decide ((i64.wrap ((i64.wrap ((i64.wrap ((Zb (Int.natAbs n_)).getD (Int.toNat 0) 0))+1))*(i64.wrap ((i64.wrap ((Zb (Int.natAbs n_)).getD (Int.toNat 0) 0))+1))))>(i64.wrap (256*a))))):=Zc.go (fn:=Yi6) Zs rfl 400 rfl [.r (.bool true),.b false,.b false,.b false,.b false,.b false,.r (.fresh 2 ps.length (pc ps)),.r (dyR (cn 0) 0),.r (dyR (cn 2000) 0),.r (.tup [.sl 1 [.sl fs.length (pc fs),.bool r.1,.sl r.2.length (lm r.2),.int .i64 e,.bool t.1,.sl t.2.length (lm t.2),.int .i64 f],.int .i64 0]),.r (.fresh 2 qs.length (pc qs)),.r (dyR (cn 0) 0),.r (dyR (cn 2000) 0),.r (.tup [.sl 1 [.sl gs.length (pc gs),.bool p.1,.sl p.2.length (lm p.2),.int .i64 c,.bool q.1,.sl q.2.length (lm q.2),.int .i64 d],.int .i64 0]),.b false,.b false,.b false,.b false,.v (rtA fs r e t f),.v (rtA gs p c q d),.r (.tup [.int .i64 (-1),.int .i64 0]),.v (rtA fs r e t f),.r (.tup [Zi n_,.int .i64 0]),.b true,.b false,.b true,.v (.int .u32 ((Zb (Int.natAbs n_)).getD (Int.toNat 0) 0)),.b true,.b true,.b true,.b true] (ac n2 (ac (show false=false from rfl) (ac c4 (ac c5 (ac c6 (ac c7 (ac n3 (ac n4 (ac n5 (ac n6 (ac n7 (ac n4 (ac n5 (ac n8 (ac (show false=false from rfl) (ac (show false=false from rfl) (ac (show false=false from rfl) (ac (show false=false from rfl) (ac (show 0<=(0:Int)/\(0:Int)<(1:Nat) from (by decide)) (ac (show Qg [.sl fs.length (pc fs),.bool r.1,.sl r.2.length (lm r.2),.int .i64 e,.bool t.1,.sl t.2.length (lm t.2),.int .i64 f] 0 7 false=some (rtA fs r e t f) from rfl) (ac (show 0<=(0:Int)/\(0:Int)<(1:Nat) from (by decide)) (ac (show Qg [.sl gs.length (pc gs),.bool p.1,.sl p.2.length (lm p.2),.int .i64 c,.bool q.1,.sl q.2.length (lm q.2),.int .i64 d] 0 7 false=some (rtA gs p c q d) from rfl) (ac n9 (ac (show 0<=(0:Int)/\(0:Int)<(1:Nat) from (by decide)) (ac (show Qg [.sl fs.length (pc fs),.bool r.1,.sl r.2.length (lm r.2),.int .i64 e,.bool t.1,.sl t.2.length (lm t.2),.int .i64 f] 0 7 false=some (rtA fs r e t f) from rfl) (ac n10 (ac c2 (ac c3 (ac c1 (ac n1 (ac (Qe n1) (ac (show true=true from rfl) (ac (show true=true from rfl) (ac (show true=true from rfl) (ac c8 a0)))))))))))))))))))))))))))))))))))
theorem Zcj (ps qs:List Rn) (fs:List Rn) (r t:Rn) (e f:Int) (gs:List Rn) (p q:Rn) (c d:Int) (a b n_:Int) (c1:(decide (a<1))=false) (c2:(decide (b<1))=false) (c3:(decide (a>1048576))=false) (c4:(decide (b>1048576))=false) (c5:(decide ((((Zb (Int.natAbs n_)).length:Nat):Int)>0))=true) (c6:(decide (a<b))=false) (c7:(decide (a>b))=true) (c8:(decide ((i64.wrap ((i64.wrap ((Zb (Int.natAbs n_)).getD (Int.toNat 0) 0))*(i64.wrap ((Zb (Int.natAbs n_)).getD (Int.toNat 0) 0))))<=(i64.wrap (256*a))))=true) (n1:0<=(0:Int)/\(0:Int)<(((Zb (Int.natAbs n_)).length:Nat):Int)) (n2:Zc Yir 21 [] (.bool true)) (n3:Zc Yir 23 [.sl 3 [.int .i64 (i64.wrap (0-a)),.int .i64 0,.int .i64 1]] (.fresh 2 ps.length (pc ps))) (n4:Zc Yir 24 [.int .i64 0,.int .i64 0] (dyR (cn 0) 0)) (n5:Zc Yir 24 [.int .i64 2000,.int .i64 0] (dyR (cn 2000) 0)) (n6:Zc Yir 22 [.sl ps.length (pc ps),dyR (cn 0) 0,dyR (cn 2000) 0] (.tup [.sl 1 [.sl fs.length (pc fs),.bool r.1,.sl r.2.length (lm r.2),.int .i64 e,.bool t.1,.sl t.2.length (lm t.2),.int .i64 f],.int .i64 0])) (n7:Zc Yir 23 [.sl 5 [.int .i64 (i64.wrap ((i64.wrap (0-b))*b)),.int .i64 0,.int .i64 0,.int .i64 0,.int .i64 1]] (.fresh 2 qs.length (pc qs))) (n8:Zc Yir 22 [.sl qs.length (pc qs),dyR (cn 0) 0,dyR (cn 2000) 0] (.tup [.sl 1 [.sl gs.length (pc gs),.bool p.1,.sl p.2.length (lm p.2),.int .i64 c,.bool q.1,.sl q.2.length (lm q.2),.int .i64 d],.int .i64 0])) (n9:Zc Yir 25 [rtA fs r e t f,rtA gs p c q d] (.tup [.int .i64 1,.int .i64 0])) (n10:Zc Yir 26 [rtA fs r e t f,.int .i64 4] (.tup [Zi n_,.int .i64 0])):Zc Yir 6 [.int .i64 a,.int .i64 b] (.bool (decide ((i64.wrap ((i64.wrap ((i64.wrap ((Zb (Int.natAbs n_)).getD (Int.toNat 0) 0))+1))*(i64.wrap ((i64.wrap ((Zb (Int.natAbs n_)).getD (Int.toNat 0) 0))+1))))>(i64.wrap (256*a))))):=Zc.go (fn:=Yi6) Zs rfl 400 rfl [.r (.bool true),.b false,.b false,.b false,.b false,.b false,.r (.fresh 2 ps.length (pc ps)),.r (dyR (cn 0) 0),.r (dyR (cn 2000) 0),.r (.tup [.sl 1 [.sl fs.length (pc fs),.bool r.1,.sl r.2.length (lm r.2),.int .i64 e,.bool t.1,.sl t.2.length (lm t.2),.int .i64 f],.int .i64 0]),.r (.fresh 2 qs.length (pc qs)),.r (dyR (cn 0) 0),.r (dyR (cn 2000) 0),.r (.tup [.sl 1 [.sl gs.length (pc gs),.bool p.1,.sl p.2.length (lm p.2),.int .i64 c,.bool q.1,.sl q.2.length (lm q.2),.int .i64 d],.int .i64 0]),.b false,.b false,.b false,.b false,.v (rtA fs r e t f),.v (rtA gs p c q d),.r (.tup [.int .i64 1,.int .i64 0]),.v (rtA fs r e t f),.r (.tup [Zi n_,.int .i64 0]),.b false,.b true,.b true,.v (.int .u32 ((Zb (Int.natAbs n_)).getD (Int.toNat 0) 0)),.b true,.b true,.b true,.b true] (ac n2 (ac (show false=false from rfl) (ac c1 (ac c2 (ac c3 (ac c4 (ac n3 (ac n4 (ac n5 (ac n6 (ac n7 (ac n4 (ac n5 (ac n8 (ac (show false=false from rfl) (ac (show false=false from rfl) (ac (show false=false from rfl) (ac (show false=false from rfl) (ac (show 0<=(0:Int)/\(0:Int)<(1:Nat) from (by decide)) (ac (show Qg [.sl fs.length (pc fs),.bool r.1,.sl r.2.length (lm r.2),.int .i64 e,.bool t.1,.sl t.2.length (lm t.2),.int .i64 f] 0 7 false=some (rtA fs r e t f) from rfl) (ac (show 0<=(0:Int)/\(0:Int)<(1:Nat) from (by decide)) (ac (show Qg [.sl gs.length (pc gs),.bool p.1,.sl p.2.length (lm p.2),.int .i64 c,.bool q.1,.sl q.2.length (lm q.2),.int .i64 d] 0 7 false=some (rtA gs p c q d) from rfl) (ac n9 (ac (show 0<=(0:Int)/\(0:Int)<(1:Nat) from (by decide)) (ac (show Qg [.sl fs.length (pc fs),.bool r.1,.sl r.2.length (lm r.2),.int .i64 e,.bool t.1,.sl t.2.length (lm t.2),.int .i64 f] 0 7 false=some (rtA fs r e t f) from rfl) (ac n10 (ac c6 (ac c7 (ac c5 (ac n1 (ac (Qe n1) (ac (show true=true from rfl) (ac (show true=true from rfl) (ac (show true=true from rfl) (ac c8 a0)))))))))))))))))))))))))))))))))))
theorem Zck (ps qs:List Rn) (fs:List Rn) (r t:Rn) (e f:Int) (gs:List Rn) (p q:Rn) (c d:Int) (a b n_:Int) (c1:(decide (a<1))=false) (c2:(decide (b<1))=false) (c3:(decide (a>1048576))=false) (c4:(decide (b>1048576))=false) (c5:(decide ((((Zb (Int.natAbs n_)).length:Nat):Int)>0))=true) (c6:(decide (a<b))=false) (c7:(decide (a>b))=false) (c8:(decide ((i64.wrap ((i64.wrap ((Zb (Int.natAbs n_)).getD (Int.toNat 0) 0))*(i64.wrap ((Zb (Int.natAbs n_)).getD (Int.toNat 0) 0))))<=(i64.wrap (256*a))))=true) (n1:0<=(0:Int)/\(0:Int)<(((Zb (Int.natAbs n_)).length:Nat):Int)) (n2:Zc Yir 21 [] (.bool true)) (n3:Zc Yir 23 [.sl 3 [.int .i64 (i64.wrap (0-a)),.int .i64 0,.int .i64 1]] (.fresh 2 ps.length (pc ps))) (n4:Zc Yir 24 [.int .i64 0,.int .i64 0] (dyR (cn 0) 0)) (n5:Zc Yir 24 [.int .i64 2000,.int .i64 0] (dyR (cn 2000) 0)) (n6:Zc Yir 22 [.sl ps.length (pc ps),dyR (cn 0) 0,dyR (cn 2000) 0] (.tup [.sl 1 [.sl fs.length (pc fs),.bool r.1,.sl r.2.length (lm r.2),.int .i64 e,.bool t.1,.sl t.2.length (lm t.2),.int .i64 f],.int .i64 0])) (n7:Zc Yir 23 [.sl 5 [.int .i64 (i64.wrap ((i64.wrap (0-b))*b)),.int .i64 0,.int .i64 0,.int .i64 0,.int .i64 1]] (.fresh 2 qs.length (pc qs))) (n8:Zc Yir 22 [.sl qs.length (pc qs),dyR (cn 0) 0,dyR (cn 2000) 0] (.tup [.sl 1 [.sl gs.length (pc gs),.bool p.1,.sl p.2.length (lm p.2),.int .i64 c,.bool q.1,.sl q.2.length (lm q.2),.int .i64 d],.int .i64 0])) (n9:Zc Yir 25 [rtA fs r e t f,rtA gs p c q d] (.tup [.int .i64 0,.int .i64 0])) (n10:Zc Yir 26 [rtA fs r e t f,.int .i64 4] (.tup [Zi n_,.int .i64 0])):Zc Yir 6 [.int .i64 a,.int .i64 b] (.bool (decide ((i64.wrap ((i64.wrap ((i64.wrap ((Zb (Int.natAbs n_)).getD (Int.toNat 0) 0))+1))*(i64.wrap ((i64.wrap ((Zb (Int.natAbs n_)).getD (Int.toNat 0) 0))+1))))>(i64.wrap (256*a))))):=Zc.go (fn:=Yi6) Zs rfl 400 rfl [.r (.bool true),.b false,.b false,.b false,.b false,.b false,.r (.fresh 2 ps.length (pc ps)),.r (dyR (cn 0) 0),.r (dyR (cn 2000) 0),.r (.tup [.sl 1 [.sl fs.length (pc fs),.bool r.1,.sl r.2.length (lm r.2),.int .i64 e,.bool t.1,.sl t.2.length (lm t.2),.int .i64 f],.int .i64 0]),.r (.fresh 2 qs.length (pc qs)),.r (dyR (cn 0) 0),.r (dyR (cn 2000) 0),.r (.tup [.sl 1 [.sl gs.length (pc gs),.bool p.1,.sl p.2.length (lm p.2),.int .i64 c,.bool q.1,.sl q.2.length (lm q.2),.int .i64 d],.int .i64 0]),.b false,.b false,.b false,.b false,.v (rtA fs r e t f),.v (rtA gs p c q d),.r (.tup [.int .i64 0,.int .i64 0]),.v (rtA fs r e t f),.r (.tup [Zi n_,.int .i64 0]),.b false,.b false,.b true,.v (.int .u32 ((Zb (Int.natAbs n_)).getD (Int.toNat 0) 0)),.b true,.b true,.b true,.b true] (ac n2 (ac (show false=false from rfl) (ac c1 (ac c2 (ac c3 (ac c4 (ac n3 (ac n4 (ac n5 (ac n6 (ac n7 (ac n4 (ac n5 (ac n8 (ac (show false=false from rfl) (ac (show false=false from rfl) (ac (show false=false from rfl) (ac (show false=false from rfl) (ac (show 0<=(0:Int)/\(0:Int)<(1:Nat) from (by decide)) (ac (show Qg [.sl fs.length (pc fs),.bool r.1,.sl r.2.length (lm r.2),.int .i64 e,.bool t.1,.sl t.2.length (lm t.2),.int .i64 f] 0 7 false=some (rtA fs r e t f) from rfl) (ac (show 0<=(0:Int)/\(0:Int)<(1:Nat) from (by decide)) (ac (show Qg [.sl gs.length (pc gs),.bool p.1,.sl p.2.length (lm p.2),.int .i64 c,.bool q.1,.sl q.2.length (lm q.2),.int .i64 d] 0 7 false=some (rtA gs p c q d) from rfl) (ac n9 (ac (show 0<=(0:Int)/\(0:Int)<(1:Nat) from (by decide)) (ac (show Qg [.sl fs.length (pc fs),.bool r.1,.sl r.2.length (lm r.2),.int .i64 e,.bool t.1,.sl t.2.length (lm t.2),.int .i64 f] 0 7 false=some (rtA fs r e t f) from rfl) (ac n10 (ac c6 (ac c7 (ac c5 (ac n1 (ac (Qe n1) (ac (show true=true from rfl) (ac (show true=true from rfl) (ac (show true=true from rfl) (ac c8 a0)))))))))))))))))))))))))))))))))))
end Go.Proofs.Ythdpfjffdipipaa

namespace Go.Proofs.Ythdpfjffdipipaa
open Go.IntKind (i64 u64 u32)
open Go.Ai
set_option maxRecDepth 100000
theorem Bs {xs:List Int} (hN:xs.length<=1048576):Zc Yir 143 [.sl xs.length (lm xs)] (.sl (Zj xs).length (lm (Zj xs))):=by
 have hl:∀ m,m<=xs.length->Za Yir (.loop Zc3) (Ey xs (m:Int)) (.exit 0) (Ey xs ((Zt xs m:Nat):Int)):=by
  intro m;induction m with
  | zero =>
   intro _;exact Za.loop_out (Zsm xs ((0:Nat):Int) (by simp)) (by nofun)
  | succ m ih =>
   intro hm;have e1:i64.wrap (((m+1:Nat):Int)-1)=(m:Int):=by rw[w64 (by omega) (by omega)];omega
   simp only[Zt];by_cases h0:xs.getD m 0=0
   ·rw[if_pos h0];have h1:=Zso xs ((m+1:Nat):Int) (by simp) (by rw[e1,Int.toNat_natCast,h0];rfl) (by rw[e1];omega);rw[e1] at h1;exact Za.loop h1 (ih (by omega))
   ·rw[if_neg h0];exact Za.loop_out (Zsn xs ((m+1:Nat):Int) (by simp) (by rw[e1,Int.toNat_natCast];simpa using h0) (by rw[e1];omega)) (by nofun)
 obtain⟨e1,e2,e3⟩:=Ro xs;have h:=Zrh xs _ (hl xs.length (Nat.le_refl _)) (by omega) e3;rw[e2,e1] at h;exact h
def Us (ms:List Int):Nat->Bool
 | 0=>false
 | i+1=>Us ms i || (ms.getD i 0 != 0)
theorem Ar {ms:List Int} (hu:U32 ms):∀ i,i<=ms.length->(Us ms i=false↔Zn (ms.take i)=0)
 | 0,_=>by simp[Us,Zn]
 | i+1,h=>by
  have ih:=Ar hu i (by omega);have ht:=Jt ms i (by omega);have hp:=Qu i;have hm:=Zx hu i;have h0:=Z0 (Xe hu i);simp only[Us,Bool.or_eq_false_iff,ih,bne_eq_false_iff_eq];rw[ht];have hm2:=Int.mul_nonneg (Int.le_of_lt hp) hm.1;constructor
  ·intro ⟨a,b⟩;rw[a,b];simp
  ·intro g;have g1:Zn (ms.take i)=0:=by omega
   have g2:4294967296^i*ms.getD i 0=0:=by omega
   refine⟨g1,?_⟩;rcases Int.mul_eq_zero.1 g2 with z | z
   ·omega
   ·exact z
theorem Zou {m:Bool} {ms:List Int} {s:Int} {kk e:Nat} (he:e<=ms.length) (hk:e<=kk) (hN:ms.length<=1048576) (hx:e=kk\/e=ms.length) :
  Za Yir (.loop Uq) (Jc m (kk:Nat) s ms false 0) (.exit 0) (Jc m (kk:Nat) s ms (Us ms e) (e:Nat)):=by
 refine Za.up (prog:=Yir) (c:=Uq) (ex := .exit 0) (fin:=Jc m (kk:Nat) s ms (Us ms e) (e:Nat)) (fun i=>Jc m (kk:Nat) s ms (Us ms i) (i:Nat)) e (by nofun) ?_ ?_ 0 (Nat.zero_le _)
 ·intro i hi;have ei:i64.wrap ((i:Int)+1)=((i+1:Nat):Int):=by rw[w64 (by omega) (by omega)];omega
  cases hl:Us ms i with
  | true =>
   have k1:=Znd m (kk:Nat) s ms true (i:Nat) (by simp;omega) (by simp;omega) rfl;rw[ei] at k1;have:Us ms (i+1)=true:=by simp only[Us];rw[hl];rfl
   rw[this];exact k1
  | false =>
   have k1:=Zba m (kk:Nat) s ms false (i:Nat) (by simp;omega) (by simp;omega) rfl (by omega);rw[ei,Int.toNat_natCast] at k1;have:Us ms (i+1)=(ms.getD i 0 != 0):=by simp only[Us];rw[hl];rfl
   rw[this];exact k1
 ·rcases hx with h | h
  ·exact La m _ s ms _ _ (by simp;omega)
  ·by_cases g:e<kk
   ·exact Znc m _ s ms _ _ (by simp;omega) (by simp;omega)
   ·exact La m _ s ms _ _ (by simp;omega)
theorem shr_bL {m lost:Bool} {ms:List Int} {kk:Int} {s k:Nat} (hu:U32 ms) (hs:s<32) (hN:ms.length<=1048576) (hk:k<=ms.length):∀ (r i:Nat),i+r=ms.length-k ->
  Za Yir (.loop Uv) (Jn m kk (s:Nat) ms lost i (lm ((List.range i).map (Vi (ms.drop k) s))) ((k+i:Nat):Int)) (.exit 2) (Jn m kk (s:Nat) ms lost (ms.length-k) (lm ((List.range (ms.length-k)).map (Vi (ms.drop k) s))) (ms.length:Nat)):=by
 intro r;induction r with
 | zero =>
  intro i hi;have hi':i=ms.length-k:=by omega
  subst hi';have e0:((k+(ms.length-k):Nat):Int)=(ms.length:Nat):=by omega
  rw[e0];exact Za.loop_out (M9 m kk _ ms lost _ _ _ (by simp)) (by nofun)
 | succ r ih =>
  intro i hi;have ei:i64.wrap (((k+i:Nat):Int)+1)=((k+(i+1):Nat):Int):=by rw[w64 (by omega) (by omega)];omega
  have hx:=Zx hu (k+i);have hy:=Zx hu (k+i+1);have gx:(ms.drop k).getD i 0=ms.getD (k+i) 0:=by simp[List.getD_eq_getElem?_getD,List.getElem?_drop]
  have gy:(ms.drop k).getD (i+1) 0=ms.getD (k+i+1) 0:=by simp[List.getD_eq_getElem?_getD,List.getElem?_drop,Nat.add_assoc]
  have em:min (Int.toNat (s:Int)) (IntKind.bits .u64)=s:=by rw[Int.toNat_natCast];show min s 64=s;omega
  have hR:Vi (ms.drop k) s i=(ms.getD (k+i+1) 0*4294967296+ms.getD (k+i) 0) / 2^s % 4294967296:=by
   rw[Zdw hx hs];unfold Vi;rw[gx,gy]
  have hstep:Za Yir Uv (Jn m kk (s:Nat) ms lost i (lm ((List.range i).map (Vi (ms.drop k) s))) ((k+i:Nat):Int)) .norm (Jn m kk (s:Nat) ms lost (i+1) (lm ((List.range (i+1)).map (Vi (ms.drop k) s))) ((k+(i+1):Nat):Int)):=by
   have el:lm ((List.range (i+1)).map (Vi (ms.drop k) s))=lm ((List.range i).map (Vi (ms.drop k) s))++([.int .u32 (Vi (ms.drop k) s i)]:List AV):=by
    rw[List.range_succ,List.map_append,List.map_cons,List.map_nil,Mq]
   rw[el,hR];by_cases h1:k+i+1<ms.length
   ·have kk1:=Za9 m kk (s:Nat) ms lost i (lm ((List.range i).map (Vi (ms.drop k) s))) ((k+i:Nat):Int) (by simp;omega) (by rw[ei];simp;omega) (by omega) (by rw[ei];omega) (by omega) (by omega);rw[ei,Int.toNat_natCast,Int.toNat_natCast,em] at kk1;have w1:u64.wrap ((BitVec.ofInt (IntKind.bits .u64) (u64.wrap (ms.getD (k+i) 0)) ||| BitVec.ofInt (IntKind.bits .u64) (u64.wrap ((u64.wrap (ms.getD (k+(i+1)) 0))*2^(min (Int.toNat 32) (IntKind.bits .u64))))).toNat)=ms.getD (k+i+1) 0*4294967296+ms.getD (k+i) 0:=by
     rw[BitVec.or_comm,Wu (n:=ms.getD (k+(i+1)) 0) (by rw[<- Nat.add_assoc];omega),<- Nat.add_assoc];exact Zbe hy hx
    have hpos:0<=ms.getD (k+i+1) 0*4294967296+ms.getD (k+i) 0:=by omega
    rw[w1,Int.fdiv_eq_ediv_of_nonneg _ (by have:=Qc s;omega),H9] at kk1;exact kk1
   ·have hz:ms.getD (k+i+1) 0=0:=Qi (by omega);have kk1:=Za8 m kk (s:Nat) ms lost i (lm ((List.range i).map (Vi (ms.drop k) s))) ((k+i:Nat):Int) (by simp;omega) (by rw[ei];simp;omega) (by omega) (by omega) (by omega);rw[ei,Int.toNat_natCast,em,Wu (n:=ms.getD (k+i) 0) (by omega),Int.fdiv_eq_ediv_of_nonneg _ (by have:=Qc s;omega),H9] at kk1;rw[hz,Int.zero_mul,Int.zero_add];exact kk1
  exact Za.loop hstep (ih (i+1) (by omega))
theorem L7 {V L P:Int} (hP:0<P) (h0:0<L) (h1:L<P) : -(P*V+L) / P = -(V+1):=by
 have e : -(P*V+L)=(P-L)+P*(-(V+1)):=by rw[Int.mul_neg,Int.mul_add];omega
 rw[e,Int.add_mul_ediv_left _ _ (by omega),Int.ediv_eq_zero_of_lt (by omega) (by omega)];omega
theorem Zfr {V L P:Int} (hP:0<P) (h0:0<=L) (h1:L<P):(P*V+L) / P=V:=by
 rw[Int.add_comm,Int.add_mul_ediv_left _ _ (by omega),Int.ediv_eq_zero_of_lt h0 h1];omega
theorem Zi2 {r:Rn} (hr:U32 r.2) (hN:r.2.length<1048576) {n:Nat} (hn:(n:Int)<=9223372036854775807):Zc Yir 125 [Z4 r,.int .i64 (n:Nat)] (Zi (Ze r / 2^n)):=by
 have hlb:=Qv (neg:=r.1) hr (Nat.le_of_lt hN);have hv:rv r.1 r.2=Ze r:=rfl;have hlen:=Vl (neg:=r.1) hr;rw[hv] at hlb hlen;have tu:U32 (Zb (Ze r).natAbs):=Q6 _;have hval:=Jg (Ze r).natAbs;generalize Ze r=N at *
 have e1:i64.wrap (Int.tdiv (n:Int) 32)=((n / 32:Nat):Int):=by
  rw[Int.tdiv_eq_ediv_of_nonneg (by omega),w64 (by omega) (by omega)];omega
 have e2:u64.wrap (Int.tmod (n:Int) 32)=((n % 32:Nat):Int):=by
  rw[Int.tmod_eq_emod_of_nonneg (by omega),Js];omega
 have hs:n % 32<32:=Nat.mod_lt _ (by decide);have hp:=Vr n;have hP:=Qu (n / 32);have hS:=Qc (n % 32);have hpn:=Qc n;generalize hms:Zb N.natAbs=ms at *
 have emask:u32.wrap ((u32.wrap (1*2^(min (Int.toNat (u64.wrap (Int.tmod (n:Int) 32))) (IntKind.bits .u32))))-1)=2^(n % 32)-1:=by
  have:min (Int.toNat ((n % 32:Nat):Int)) (IntKind.bits .u32)=n % 32:=by rw[Int.toNat_natCast];show min (n % 32) 32=n % 32;omega
  have h31:(2:Int)^(n % 32)<=2147483648:=Wz (show n % 32<=31 by omega);rw[e2,this,Int.one_mul,H9,H9];omega
 by_cases hin:n / 32<ms.length
 ·have hall:=Zdx (ms:=ms) hs (show n / 32<=ms.length by omega);have ux:U32 ((List.range (ms.length-n / 32)).map (Vi (ms.drop (n / 32)) (n % 32))):=Br fun i=>(Mc (Xs tu _) hs i).2.2.2;have hQl:((List.range (ms.length-n / 32)).map (Vi (ms.drop (n / 32)) (n % 32))).length=ms.length-n / 32:=by simp
  have hb:=shr_bL (lost:=Us ms (n / 32)) (m:=decide (N<0)) (ms:=ms) (kk:=((n / 32:Nat):Int)) (s:=n % 32) (k:=n / 32) tu hs (by omega) (by omega) (ms.length-n / 32) 0 (by omega);have hmk:=J0 (neg:=decide (N<0)) ux (by omega);generalize hQ:(List.range (ms.length-n / 32)).map (Vi (ms.drop (n / 32)) (n % 32))=Q at *
  rw[<- hQl] at hb;have hm0:=Int.emod_nonneg (ms.getD (n / 32) 0) (show (2:Int)^(n % 32) ≠ 0 by omega);have hm1:=Int.emod_lt_of_pos (ms.getD (n / 32) 0) hS;have ht0:=Z0 (Xe tu (n / 32));have ht1:=Vv tu (n / 32);have hQ0:=Z0 ux;have hl:0<=4294967296^(n / 32)*(ms.getD (n / 32) 0 % 2^(n % 32))+Zn (ms.take (n / 32))/\4294967296^(n / 32)*(ms.getD (n / 32) 0 % 2^(n % 32))+Zn (ms.take (n / 32))<2^n:=by
   rw[hp];generalize (4294967296:Int)^(n / 32)=P at *
   generalize ms.getD (n / 32) 0 % 2^(n % 32)=z at *
   generalize (2:Int)^(n % 32)=S at *
   have a:=Int.mul_nonneg (Int.le_of_lt hP) hm0;have b:=Int.mul_le_mul_of_nonneg_left (show z+1<=S by omega) (Int.le_of_lt hP);rw[Int.mul_add,Int.mul_one] at b;omega
  have hv2:(N.natAbs:Int)=2^n*Zn Q+(4294967296^(n / 32)*(ms.getD (n / 32) 0 % 2^(n % 32))+Zn (ms.take (n / 32))):=by rw[<- hval,hall,hp];grind
  have hz:(4294967296^(n / 32)*(ms.getD (n / 32) 0 % 2^(n % 32))+Zn (ms.take (n / 32))=0)↔(ms.getD (n / 32) 0 % 2^(n % 32)=0/\Zn (ms.take (n / 32))=0):=by
   have a:=Int.mul_nonneg (Int.le_of_lt hP) hm0;constructor
   ·intro g;have b:4294967296^(n / 32)*(ms.getD (n / 32) 0 % 2^(n % 32))=0:=by omega
    rcases Int.mul_eq_zero.1 b with z | z
    ·omega
    ·exact⟨z,by omega⟩
   ·intro ⟨g1,g2⟩;rw[g1,g2];simp
  have hlo:=Ar tu (n / 32) (by omega);generalize hL:4294967296^(n / 32)*(ms.getD (n / 32) 0 % 2^(n % 32))+Zn (ms.take (n / 32))=Lo at *
  have ha:=Zou (m:=decide (N<0)) (ms:=ms) (s:=((n % 32:Nat):Int)) (kk:=n / 32) (e:=n / 32) (by omega) (Nat.le_refl _) (by omega) (.inl rfl);have ec2:u32.wrap ((BitVec.ofInt (IntKind.bits .u32) (ms.getD (Int.toNat (i64.wrap (Int.tdiv (n:Int) 32))) 0) &&& BitVec.ofInt (IntKind.bits .u32) (u32.wrap ((u32.wrap (1*2^(min (Int.toNat (u64.wrap (Int.tmod (n:Int) 32))) (IntKind.bits .u32))))-1))).toNat)=ms.getD (n / 32) 0 % 2^(n % 32):=by
   rw[emask,e1,Int.toNat_natCast,Zrc (Zx tu _) (by omega)]
  have c1:decide ((i64.wrap (Int.tdiv (n:Int) 32))<(ms.length:Int))=true:=by rw[e1];simp;omega
  have hb2:Za Yir (.loop Uv) (Jn (decide (N<0)) (i64.wrap (Int.tdiv (n:Int) 32)) (u64.wrap (Int.tmod (n:Int) 32)) ms (Us ms (n / 32)) 0 [] (i64.wrap (Int.tdiv (n:Int) 32))) (.exit 2) (Jn (decide (N<0)) (i64.wrap (Int.tdiv (n:Int) 32)) (u64.wrap (Int.tmod (n:Int) 32)) ms (Us ms (n / 32)) Q.length (lm Q) (ms.length:Nat)):=by
   rw[e1,e2];exact hb
  have ha2:Za Yir (.loop Uq) (Jc (decide (N<0)) (i64.wrap (Int.tdiv (n:Int) 32)) (u64.wrap (Int.tmod (n:Int) 32)) ms false 0) (.exit 0) (Jc (decide (N<0)) (i64.wrap (Int.tdiv (n:Int) 32)) (u64.wrap (Int.tmod (n:Int) 32)) ms (Us ms (n / 32)) ((n / 32:Nat):Int)):=by
   rw[e1,e2];exact ha
  have i1:0<=i64.wrap (Int.tdiv (n:Int) 32)/\i64.wrap (Int.tdiv (n:Int) 32)<(ms.length:Int):=by rw[e1];omega
  have i2:¬ u64.wrap (Int.tmod (n:Int) 32)<0:=by rw[e2];omega
  by_cases hneg:N<0
  ·rw[decide_eq_true hneg] at hlb ha2 hb2 hmk;by_cases h0:Lo=0
   ·obtain⟨z1,z2⟩:=hz.1 h0;have e:rv true Q=N / 2^n:=by
     have:N=2^n*(-Zn Q):=by rw[Int.mul_neg];omega
     show -Zn Q=_;conv=>rhs;rw[this]
     rw[Int.mul_ediv_cancel_left _ (by omega)]
    rw[e] at hmk;exact P6 r.1 true (Us ms (n / 32)) r.2 ms Q (n:Nat) _ _ _ c1 (by rw[ec2,z1];rfl) rfl (hlo.2 z2) hlb ha2 hb2 i1 i2 hmk
   ·have tl:=Bs (xs:=Q) (by omega);have tlen:=Vh Q Q.length;obtain⟨ws,w1,w2,w3,w4⟩:=K8 (xs:=Zj Q) (ys:=[1]) (fun x hx=>ux x (List.mem_of_mem_take hx)) (fun x hx=>by
     rcases List.mem_cons.1 hx with rfl | hx
     ·decide
     ·cases hx) (by unfold Zj;rw[List.length_take];omega) (by decide)
    rw[Bt] at w2;have mk:=J0 (neg:=true) w1 w3;have e:rv true ws=N / 2^n:=by
     have h:=L7 (V:=Zn Q) (L:=Lo) hpn (by omega) hl.2;have:N = -(2^n*Zn Q+Lo):=by omega
     show -Zn ws=_;rw[w2,this,h];rfl
    rw[e] at mk;by_cases z1:ms.getD (n / 32) 0 % 2^(n % 32)=0
    ·have hlost:Us ms (n / 32)=true:=by
      cases hq:Us ms (n / 32) with
      | true=>rfl
      | false=>exact absurd (hz.2 ⟨z1,hlo.1 hq⟩) h0
     exact Zgz r.1 true (Us ms (n / 32)) r.2 ms Q _ ws (n:Nat) _ _ _ c1 (by rw[ec2,z1];rfl) rfl hlost hlb ha2 hb2 i1 i2 tl w4 mk
    ·exact Zg1 r.1 true (Us ms (n / 32)) r.2 ms Q _ ws (n:Nat) _ _ _ c1 (by rw[ec2];simpa using z1) rfl hlb ha2 hb2 i1 i2 tl w4 mk
  ·rw[decide_eq_false hneg] at hlb ha2 hb2 hmk;have e:rv false Q=N / 2^n:=by
    have h:=Zfr (V:=Zn Q) (L:=Lo) hpn hl.1 hl.2;have:N=2^n*Zn Q+Lo:=by omega
    show Zn Q=_;rw[this,h]
   rw[e] at hmk;by_cases z1:ms.getD (n / 32) 0 % 2^(n % 32)=0
   ·exact P5 r.1 false (Us ms (n / 32)) r.2 ms Q (n:Nat) _ _ _ c1 (by rw[ec2,z1];rfl) rfl hlb ha2 hb2 i1 i2 hmk
   ·exact Zg0 r.1 false (Us ms (n / 32)) r.2 ms Q (n:Nat) _ _ _ c1 (by rw[ec2];simpa using z1) rfl hlb ha2 hb2 i1 i2 hmk
 ·have hlt:(N.natAbs:Int)<2^n:=by
   have h1:=Vg tu;rw[hval] at h1;have h2:=Vq (show ms.length<=n / 32 by omega);have h5:=Int.mul_le_mul_of_nonneg_left (show (1:Int)<=2^(n % 32) by omega) (Int.le_of_lt hP);rw[Int.mul_one,<- hp] at h5;omega
  have hlo:=Ar tu ms.length (Nat.le_refl _);rw[List.take_length,hval] at hlo;have ha:=Zou (m:=decide (N<0)) (ms:=ms) (s:=((n % 32:Nat):Int)) (kk:=n / 32) (e:=ms.length) (Nat.le_refl _) (by omega) (by omega) (.inr rfl);have hb2:∀ l:Bool,Za Yir (.loop Uv) (Jn (decide (N<0)) (i64.wrap (Int.tdiv (n:Int) 32)) (u64.wrap (Int.tmod (n:Int) 32)) ms l 0 [] (i64.wrap (Int.tdiv (n:Int) 32))) (.exit 2) (Jn (decide (N<0)) (i64.wrap (Int.tdiv (n:Int) 32)) (u64.wrap (Int.tmod (n:Int) 32)) ms l ([]:List Int).length (lm []) ((n / 32:Nat):Int)):=by
   intro l;rw[e1];exact Za.loop_out (M9 _ _ _ ms l _ _ _ (by simp;omega)) (by nofun)
  have ha2:Za Yir (.loop Uq) (Jc (decide (N<0)) (i64.wrap (Int.tdiv (n:Int) 32)) (u64.wrap (Int.tmod (n:Int) 32)) ms false 0) (.exit 0) (Jc (decide (N<0)) (i64.wrap (Int.tdiv (n:Int) 32)) (u64.wrap (Int.tmod (n:Int) 32)) ms (Us ms ms.length) (ms.length:Int)):=by
   rw[e1,e2];exact ha
  have c1:decide ((i64.wrap (Int.tdiv (n:Int) 32))<(ms.length:Int))=false:=by rw[e1];simp;omega
  have u0:U32 ([]:List Int):=fun x hx=>by cases hx
  by_cases hneg:N<0
  ·rw[decide_eq_true hneg] at hlb ha2 hb2;have hlost:Us ms ms.length=true:=by
    cases hq:Us ms ms.length with
    | true=>rfl
    | false=>have:=hlo.1 hq;omega
   have tl:=Bs (xs:=[]) (by decide);obtain⟨ws,w1,w2,w3,w4⟩:=K8 (xs:=Zj []) (ys:=[1]) u0 (fun x hx=>by
     rcases List.mem_cons.1 hx with rfl | hx
     ·decide
     ·cases hx) (by decide) (by decide)
   have mk:=J0 (neg:=true) w1 w3;have e:rv true ws=N / 2^n:=by
    have h:=L7 (V:=0) (L := -N) hpn (by omega) (by omega);rw[Int.mul_zero,Int.zero_add,Int.neg_neg] at h;show -Zn ws=_;rw[w2,h];rfl
   rw[e] at mk;exact Zgy r.1 true (Us ms ms.length) r.2 ms [] _ ws (n:Nat) _ _ _ c1 rfl hlost hlb ha2 (hb2 _) tl w4 mk
  ·rw[decide_eq_false hneg] at hlb ha2 hb2;have mk:=J0 (neg:=false) u0 (by decide);have e:rv false []=N / 2^n:=by
    rw[Int.ediv_eq_zero_of_lt (by omega) (by omega)];rfl
   rw[e] at mk;exact Zgx r.1 false (Us ms ms.length) r.2 ms [] (n:Nat) _ _ _ c1 rfl hlb ha2 (hb2 _) mk
end Go.Proofs.Ythdpfjffdipipaa

namespace Go.Proofs.Ythdpfjffdipipaa
open Go.IntKind (i64 u64 u32)
open Go.Ai
set_option maxRecDepth 100000
def J7 (p:List Int) (x:Iv):Nat->Iv
 | 0=>x
 | n+1=>stp p (J7 p x n)
theorem Wv {p:List Int} {C m:Nat} {x:Iv} (h:IvOk C m x):∀ n,C+m+n<3000->IvOk C (m+n) (J7 p x n)
 | 0,_=>h
 | n+1,hc=>stp_ok (m:=m+n) (Wv h n (by omega)) (by omega)
section
variable {p:List Int} (hp:Zi0 p) {x:Iv} (h:IvOk 128 200 x) {fs:List Rn} {r0:Rn} {e0:Int} {t0:Rn} {f0:Int}
include hp h
end
section
variable {rs:List Rn} (hg:∀ r∈rs,Ji 5 r) (hn:rs.length<=9)
include hg hn
theorem Mv (r t:Rn) (e f:Int):Zc Yir 66 [.agg [.sl rs.length (pc rs),.bool r.1,.sl r.2.length (lm r.2),.int .i64 e,.bool t.1,.sl t.2.length (lm t.2),.int .i64 f]]
  (.agg [.sl ((Zq (Zf rs)).map cn).length (pc ((Zq (Zf rs)).map cn)),.bool r.1,.sl r.2.length (lm r.2),.int .i64 e,.bool t.1,.sl t.2.length (lm t.2),.int .i64 f]):=by
 rcases Px (K:=5) (c:=9) hg hn (Nat.le_refl _) (by decide) with h | h
 ·exact Zl1 rs r t e f _ h
 ·exact Zl0 rs r t e f _ h
end
theorem Zf7 (x:Int) (a:Nat):X1 x a x a=0:=by
 unfold X1 U6;rw[if_neg (by omega),if_neg (by omega)]
end Go.Proofs.Ythdpfjffdipipaa

namespace Go.Ai
open Go.IntKind (i64 u64 u32)
def hs (c:Nat->Int) (x q:Int):Nat->Int
 | 0=>c 0
 | T+1=>q*hs c x q T+c (T+1)*x^(T+1)
theorem Nm {c d:Nat->Int} {x q:Int}:∀ {T:Nat},(∀ i,i<=T->c i=d i)->hs c x q T=hs d x q T
 | 0,h=>h 0 (Nat.le_refl _)
 | T+1,h=>by
  simp only[hs];rw[Nm (T:=T) fun i hi=>h i (by omega),h (T+1) (Nat.le_refl _)]
theorem Nl (a b:Int) (c d:Nat->Int) (x q:Int):∀ T:Nat,hs (fun i=>a*c i+b*d i) x q T=a*hs c x q T+b*hs d x q T
 | 0=>rfl
 | T+1=>by
  simp only[hs];rw[Nl a b c d x q T];grind
theorem Zfg {c:Nat->Int} {T:Nat} (h:∀ i,T<i->c i=0) (x q:Int):∀ k:Nat,hs c x q (T+k)=q^k*hs c x q T
 | 0=>by simp
 | k+1=>by
  rw[<- Nat.add_assoc];simp only[hs];rw[Zfg h x q k,h _ (by omega),Int.pow_succ];grind
theorem Bi (c:Nat->Int) (x q:Int):∀ T:Nat,hs c x q (T+1)=c 0*q^(T+1)+x*hs (fun i=>c (i+1)) x q T
 | 0=>by simp only[hs];grind
 | T+1=>by
  have h:=Bi c x q T;have e1:hs c x q (T+1+1)=q*hs c x q (T+1)+c (T+1+1)*x^(T+1+1):=rfl;have e2:hs (fun i=>c (i+1)) x q (T+1)=q*hs (fun i=>c (i+1)) x q T+c (T+1+1)*x^(T+1):=rfl;rw[e1,h,e2,Int.pow_succ q (T+1),Int.pow_succ x (T+1)];grind
theorem Zkh (c:Nat->Int) (x q:Int) (T:Nat):hs (fun i=>if i=0 then 0 else c (i-1)) x q (T+1)=x*hs c x q T:=by
 rw[Bi];simp only[if_pos,Int.zero_mul,Int.zero_add];rw[Nm (d:=c) fun i _=>by rw[if_neg (by omega),Nat.add_sub_cancel]]
def hp (p:List Int) (x q:Int) (T:Nat):Int:=hs (fun i=>p.getD i 0) x q T
theorem Zqq:∀ (p:List Int) (x q:Int),hv p x q=hp p x q (p.length-1)
 | [],_,_=>rfl
 | [a],x,q=>by simp[hv,hp,hs]
 | a::b::p,x,q=>by
  have ih:=Zqq (b::p) x q;have e:hp (a::b::p) x q ((a::b::p).length-1)=a*q^(b::p).length+x*hp (b::p) x q ((b::p).length-1):=by
   unfold hp;show hs _ x q ((b::p).length-1+1)=_;rw[Bi];rfl
  rw[e,<- ih];rfl
theorem Mu {p:List Int} {T:Nat} (h:p.length<=T+1) (x q:Int) (k:Nat):hp p x q (T+k)=q^k*hp p x q T :=
 Zfg (fun i hi=>Qi (by omega)) x q k
theorem Zao (x q:Int):∀ T:Nat,hp [] x q T=0
 | 0=>rfl
 | T+1=>by
  have:=Zao x q T;unfold hp at *
  simp only[hs];rw[this];simp
theorem Zfi {r:List Int} {tr:Nat} (hr:r.length<=tr+1) (x q:Int):∀ (p:List Int) (tp:Nat),p.length<=tp+1->hp (Xx p r) x q (tp+tr)=hp p x q tp*hp r x q tr
 | [],tp,_=>by rw[Zao,Int.zero_mul];exact Zao x q _
 | a::p,tp,h=>by
  have hc:∀ i,(Xx (a::p) r).getD i 0=a*r.getD i 0+1*(if i=0 then 0 else (Xx p r).getD (i-1) 0):=by
   intro i;rw[J5,Qw];by_cases h0:i=0
   ·subst h0;rw[if_neg (by omega),if_pos rfl];omega
   ·rw[if_pos (by omega),if_neg h0];omega
  cases tp with
  | zero =>
   have hp0:p=[]:=List.eq_nil_of_length_eq_zero (by have h':p.length+1<=0+1:=h;omega);subst hp0;have h0:∀ i,(Xx [] r).getD i 0=0:=fun i=>rfl;unfold hp;rw[Nm (d:=fun i=>a*r.getD i 0+0*r.getD i 0) fun i _=>by rw[hc,h0];split <;> simp,Nl,Nat.zero_add];simp[hs]
  | succ tp =>
   have ih:=Zfi hr x q p tp (by have h':p.length+1<=tp+1+1:=h;omega);have hm:=Mu hr x q (tp+1);have ha:hp (a::p) x q (tp+1)=a*q^(tp+1)+x*hp p x q tp:=by unfold hp;rw[Bi];rfl
   have hsh:=Zkh (fun i=>(Xx p r).getD i 0) x q (tp+tr);have e:hp (Xx (a::p) r) x q (tp+1+tr)=a*hp r x q (tp+1+tr)+1*(x*hp (Xx p r) x q (tp+tr)):=by
    unfold hp;rw[Nm fun i _=>hc i,Nl,show tp+1+tr=tp+tr+1 by omega];rw[hsh]
   rw[e,ih,show tp+1+tr=tr+(tp+1) by omega,hm,ha];grind
theorem hp_id {r d e Q:List Int} {c c':Int} (h:∀ x,c*Zd r x=Zd Q x*Zd d x+c'*Zd e x) (x q:Int) {tq td:Nat} (hQ:Q.length<=tq+1) (hd:d.length<=td+1) :
  c*hp r x q (tq+td)=hp Q x q tq*hp d x q td+c'*hp e x q (tq+td):=by
 have hi:=Ue (p:=Zw c r) (q:=Gs (Xx Q d) (Zw c' e)) (fun x=>by rw[Zm,Qo,Z1,Zm];exact h x);have hc:∀ i,c*r.getD i 0+0*r.getD i 0=1*(Xx Q d).getD i 0+c'*e.getD i 0:=by
  intro i;have:=hi i;rw[Z2,Xa,Z2] at this;omega
 rw[<- Zfi hd x q Q tq hQ];unfold hp;have h1:=Nl c 0 (fun i=>r.getD i 0) (fun i=>r.getD i 0) x q (tq+td);have h2:=Nl 1 c' (fun i=>(Xx Q d).getD i 0) (fun i=>e.getD i 0) x q (tq+td);rw[Nm fun i _=>hc i,h2] at h1;omega
theorem Jm {a b A B:Int} (ha:(a.natAbs:Int)<=A) (hb:(b.natAbs:Int)<=B):((a*b).natAbs:Int)<=A*B:=by
 rw[Int.natAbs_mul,Int.natCast_mul];exact Int.mul_le_mul ha hb (by omega) (by omega)
theorem Vu {a b A B:Int} (ha:(a.natAbs:Int)<=A) (hb:(b.natAbs:Int)<=B):((a+b).natAbs:Int)<=A+B:=by omega
theorem Hu {a A:Int} (ha:(a.natAbs:Int)<=A):∀ n:Nat,((a^n).natAbs:Int)<=A^n
 | 0=>by simp
 | n+1=>by rw[Int.pow_succ,Int.pow_succ];exact Jm (Hu ha n) ha
theorem Bj (c:Nat->Int) (R:Int) (hR:0<=R):∀ T:Nat,∃ K:Int,0<=K/\∀ q x:Int,0<q->(x.natAbs:Int)<=R*q->((hs c x q T).natAbs:Int)<=K*q^T
 | 0=>⟨((c 0).natAbs:Int),by omega,fun q x _ _=>by simp[hs]⟩
 | T+1=>by
  obtain⟨K,hK,h⟩:=Bj c R hR T;refine⟨K+((c (T+1)).natAbs:Int)*R^(T+1),?_,fun q x hq hx => ?_⟩
  ·have:=Int.mul_nonneg (show (0:Int)<=((c (T+1)).natAbs:Int) by omega) (Int.pow_nonneg (m:=T+1) hR);omega
  ·simp only[hs];have h1:=Jm (a:=q) (A:=q) (by omega) (h q x hq hx);have h2:=Jm (a:=c (T+1)) (A:=((c (T+1)).natAbs:Int)) (by omega) (Hu hx (T+1));have h3:=Vu h1 h2;have e:(R*q)^(T+1)=R^(T+1)*q^(T+1):=Int.mul_pow ..;rw[e] at h3;refine Int.le_trans h3 (Int.le_of_eq ?_);rw[Int.pow_succ q T];grind
theorem T6 {x A:Int} (hx:(x.natAbs:Int)<=A) (hx1:((x+1).natAbs:Int)<=A):∀ n:Nat,(((x+1)^(n+1)-x^(n+1)).natAbs:Int)<=((n+1:Nat):Int)*A^n
 | 0=>by
  have e:(x+1)^(0+1)-x^(0+1)=1:=by rw[Int.pow_succ,Int.pow_zero,Int.pow_succ,Int.pow_zero];omega
  rw[e];simp
 | n+1=>by
  have ih:=T6 hx hx1 n;have e:(x+1)^(n+1+1)-x^(n+1+1)=(x+1)*((x+1)^(n+1)-x^(n+1))+x^(n+1):=by rw[Int.pow_succ (x+1) (n+1),Int.pow_succ x (n+1)];grind
  rw[e];have h:=Vu (Jm hx1 ih) (Hu hx (n+1));refine Int.le_trans h (Int.le_of_eq ?_);rw[Int.pow_succ A n,Int.natCast_add,Int.natCast_add,Int.natCast_add];grind
theorem Zo3 (c:Nat->Int) (R:Int) (hR:0<=R):∀ T:Nat,∃ K:Int,0<=K/\∀ q x:Int,0<q->(x.natAbs:Int)<=R*q->((x+1).natAbs:Int)<=R*q->((hs c (x+1) q (T+1)-hs c x q (T+1)).natAbs:Int)<=K*q^T
 | 0=>⟨((c 1).natAbs:Int),by omega,fun q x _ _ _=>by
   simp only[hs];have:q*c 0+c (0+1)*(x+1)^(0+1)-(q*c 0+c (0+1)*x^(0+1))=c 1:=by simp;grind
   rw[this];simp⟩
 | T+1=>by
  obtain⟨K,hK,h⟩:=Zo3 c R hR T;refine⟨K+((c (T+2)).natAbs:Int)*(((T+1+1:Nat):Int)*R^(T+1)),?_,fun q x hq hx hx1 => ?_⟩
  ·have:=Int.mul_nonneg (show (0:Int)<=((c (T+2)).natAbs:Int) by omega) (Int.mul_nonneg (show (0:Int)<=((T+1+1:Nat):Int) by omega) (Int.pow_nonneg (m:=T+1) hR));omega
  ·have e:hs c (x+1) q (T+1+1)-hs c x q (T+1+1)=q*(hs c (x+1) q (T+1)-hs c x q (T+1))+c (T+2)*((x+1)^(T+1+1)-x^(T+1+1)):=by
    show (q*hs c (x+1) q (T+1)+c (T+1+1)*(x+1)^(T+1+1))-(q*hs c x q (T+1)+c (T+1+1)*x^(T+1+1))=_;grind
   rw[e];have h1:=Jm (a:=q) (A:=q) (by omega) (h q x hq hx hx1);have h2:=Jm (a:=c (T+2)) (A:=((c (T+2)).natAbs:Int)) (by omega) (T6 hx hx1 (T+1));have h3:=Vu h1 h2;have e2:(R*q)^(T+1)=R^(T+1)*q^(T+1):=Int.mul_pow ..;rw[e2] at h3;refine Int.le_trans h3 (Int.le_of_eq ?_);rw[Int.pow_succ q T];grind
end Go.Ai

namespace Go.Ai
open Go.IntKind (i64 u64 u32)
theorem Zee {x A:Int} (hA:0<=A) (hx:(x.natAbs:Int)<=A) (hx1:((x+1).natAbs:Int)<=A):∀ n:Nat,(((x+1)^(n+2)-x^(n+2)-((n+2:Nat):Int)*x^(n+1)).natAbs:Int)<=(((n+1)*(n+2):Nat):Int)*A^n
 | 0=>by
  have e:(x+1)^(0+2)-x^(0+2)-((0+2:Nat):Int)*x^(0+1)=1:=by
   rw[show (x+1)^(0+2)=(x+1)*(x+1) by rw[Int.pow_succ,Int.pow_succ,Int.pow_zero,Int.one_mul],show x^(0+2)=x*x by rw[Int.pow_succ,Int.pow_succ,Int.pow_zero,Int.one_mul],show x^(0+1)=x by rw[Int.pow_succ,Int.pow_zero,Int.one_mul]];grind
  rw[e];simp
 | n+1=>by
  have ih:=Zee hA hx hx1 n;have e:(x+1)^(n+1+2)-x^(n+1+2)-((n+1+2:Nat):Int)*x^(n+1+1)=(x+1)*((x+1)^(n+2)-x^(n+2)-((n+2:Nat):Int)*x^(n+1))+((n+2:Nat):Int)*x^(n+1):=by
   rw[show n+1+2=n+2+1 by omega,Int.pow_succ (x+1) (n+2),Int.pow_succ x (n+2),show n+1+1=n+2 by omega,show x^(n+2)=x^(n+1)*x from Int.pow_succ ..];have:((n+2+1:Nat):Int)=((n+2:Nat):Int)+1:=by omega
   rw[this];grind
  rw[e];have h:=Vu (Jm hx1 ih) (Jm (a:=((n+2:Nat):Int)) (A:=((n+2:Nat):Int)) (by omega) (Hu hx (n+1)));refine Int.le_trans h ?_;rw[show A^(n+1)=A^n*A from Int.pow_succ ..];have hAn:0<=A^n*A:=Int.mul_nonneg (Int.pow_nonneg hA) hA;have e2:A*((((n+1)*(n+2):Nat):Int)*A^n)+((n+2:Nat):Int)*(A^n*A)=((((n+1)*(n+2)+(n+2):Nat)):Int)*(A^n*A):=by
   rw[Int.natCast_add];grind
  rw[e2];apply Int.mul_le_mul_of_nonneg_right _ hAn;have:(n+1)*(n+2)+(n+2)<=(n+1+1)*(n+1+2):=by
   have:(n+1)*(n+2)+(n+2)=(n+2)*(n+2):=by rw[<- Nat.succ_mul]
   rw[this];exact Nat.mul_le_mul (by omega) (by omega)
  omega
def Zpb (c:Nat->Int) (i:Nat):Int:=((i+1:Nat):Int)*c (i+1)
theorem Zo4 (c:Nat->Int) (R:Int) (hR:0<=R):∀ T:Nat,∃ K:Int,0<=K/\∀ q x:Int,0<q->(x.natAbs:Int)<=R*q->((x+1).natAbs:Int)<=R*q ->
  ((hs c (x+1) q (T+2)-hs c x q (T+2)-hs (Zpb c) x q (T+1)).natAbs:Int)<=K*q^T
 | 0=>⟨((c 2).natAbs:Int),by omega,fun q x _ _ _=>by
   have e:hs c (x+1) q (0+2)-hs c x q (0+2)-hs (Zpb c) x q (0+1)=c 2:=by
    have p1:∀ y:Int,y^(0+1)=y:=fun y=>by rw[Int.pow_succ,Int.pow_zero,Int.one_mul]
    have p2:∀ y:Int,y^(0+1+1)=y*y:=fun y=>by rw[Int.pow_succ,p1]
    show (q*(q*c 0+c (0+1)*(x+1)^(0+1))+c (0+1+1)*(x+1)^(0+1+1))-(q*(q*c 0+c (0+1)*x^(0+1))+c (0+1+1)*x^(0+1+1))-(q*(((0+1:Nat):Int)*c (0+1))+((0+1+1:Nat):Int)*c (0+1+1)*x^(0+1))=_;rw[p1,p1,p2,p2];have h1:((0+1:Nat):Int)=1:=rfl;have h2:((0+1+1:Nat):Int)=2:=rfl;rw[h1,h2];grind
   rw[e];simp⟩
 | T+1=>by
  obtain⟨K,hK,h⟩:=Zo4 c R hR T;refine⟨K+((c (T+3)).natAbs:Int)*((((T+2)*(T+3):Nat):Int)*R^(T+1)),?_,fun q x hq hx hx1 => ?_⟩
  ·have:=Int.mul_nonneg (show (0:Int)<=((c (T+3)).natAbs:Int) by omega) (Int.mul_nonneg (show (0:Int)<=(((T+2)*(T+3):Nat):Int) by omega) (Int.pow_nonneg (m:=T+1) hR));omega
  ·have e:hs c (x+1) q (T+1+2)-hs c x q (T+1+2)-hs (Zpb c) x q (T+1+1)=q*(hs c (x+1) q (T+2)-hs c x q (T+2)-hs (Zpb c) x q (T+1))+c (T+3)*((x+1)^(T+1+2)-x^(T+1+2)-((T+1+2:Nat):Int)*x^(T+1+1)):=by
    show (q*hs c (x+1) q (T+2)+c (T+3)*(x+1)^(T+1+2))-(q*hs c x q (T+2)+c (T+3)*x^(T+1+2))-(q*hs (Zpb c) x q (T+1)+((T+1+1+1:Nat):Int)*c (T+3)*x^(T+1+1))=_;have:((T+1+1+1:Nat):Int)=((T+1+2:Nat):Int):=rfl;rw[this];grind
   rw[e];have hRq:0<=R*q:=Int.mul_nonneg hR (by omega);have h1:=Jm (a:=q) (A:=q) (by omega) (h q x hq hx hx1);have h2:=Jm (a:=c (T+3)) (A:=((c (T+3)).natAbs:Int)) (by omega) (Zee hRq hx hx1 (T+1));have h3:=Vu h1 h2;have e2:(R*q)^(T+1)=R^(T+1)*q^(T+1):=Int.mul_pow ..;rw[e2] at h3;refine Int.le_trans h3 (Int.le_of_eq ?_);rw[Int.pow_succ q T];grind
def wv (last:Int):List Int->Int
 | []=>0
 | s::ss=>if s=0 then wv last ss else (if last ≠ 0/\s ≠ last then 1 else 0)+wv s ss
inductive Mid:Int->List Int->List Int->Prop
 | nil (σ:Int):Mid σ [] []
 | st (σ s:Int) {ss tt:List Int}:(s=1\/s = -1)->Mid s ss tt->Mid σ (s::ss) (s::tt)
 | un (σ a b:Int) {ss tt:List Int}:(-1<=a/\a<=1)->(-1<=b/\b<=1)->Mid (-σ) ss tt->Mid σ (a :: -σ::ss) (b :: -σ::tt)
theorem Zdc {σ a:Int} (hσ:σ=1\/σ = -1) (ha : -1<=a/\a<=1) (ss:List Int):wv σ (a :: -σ::ss)=1+wv (-σ) ss:=by
 simp only[wv];rcases hσ with rfl | rfl
 ·rcases show a = -1\/a=0\/a=1 by omega with rfl | rfl | rfl <;> simp
 ·rcases show a = -1\/a=0\/a=1 by omega with rfl | rfl | rfl <;> simp
theorem Zo0 {σ:Int} {s t:List Int} (h:Mid σ s t):(σ=1\/σ = -1)->wv σ s=wv σ t:=by
 induction h with
 | nil σ=>intro _;rfl
 | st σ s hs _ ih =>
  intro _;have h0:s ≠ 0:=by omega
  simp only[wv,if_neg h0];rw[ih hs]
 | un σ a b ha hb _ ih =>
  intro hσ;rw[Zdc hσ ha,Zdc hσ hb,ih (by omega)]
inductive Top:List Int->List Int->Int->Prop
 | st (s:Int) {ss tt:List Int}:(s=1\/s = -1)->Mid s ss tt->Top (s::ss) (s::tt) 0
 | un (σ a b:Int) {ss tt:List Int}:(σ=1\/σ = -1)->(a = -σ\/a=0)->(b=0\/b=σ)->Mid σ ss tt->Top (a::σ::ss) (b::σ::tt) (if a=0 then 0 else 1)
theorem Zoq {s t:List Int} {d:Int} (h:Top s t d):wv 0 s=wv 0 t+d:=by
 cases h with
 | st s hs hm =>
  have h0:s ≠ 0:=by omega
  simp only[wv,if_neg h0];rw[Zo0 hm hs];omega
 | un σ a b hσ ha hb hm =>
  have e:=Zo0 hm hσ;simp only[wv];rcases hσ with rfl | rfl
  ·rcases ha with rfl | rfl <;> rcases hb with rfl | rfl <;> simp <;> omega
  ·rcases ha with rfl | rfl <;> rcases hb with rfl | rfl <;> simp <;> omega
end Go.Ai

namespace Go.Ai
open Go.IntKind (i64 u64 u32)
theorem Zbx (p:List Int) (x:Int):Zd p x=(Qy p:Int)*Zd (prim p) x:=by
 rw[<- Zm];exact Va (fun i=>by rw[Z2,Ba]) x
theorem Zeb {r d:List Int} (hd:Xw d) (hd0:d ≠ []) (hl:d.length<=r.length):∃ (c c':Int) (Q:List Int),0<c/\0<c'/\∀ x,c*Zd r x=Zd Q x*Zd d x+c'*Zd (Uj r d) x:=by
 have ht:top d ≠ 0:=U3 hd hd0;have he:=Pi hl ((top d).natAbs:Int) (sg (top d)*top r);have hp:∀ x,Zd (Kf r d ((top d).natAbs:Int) (sg (top d)*top r) r.length) x=(Qy (Kf r d ((top d).natAbs:Int) (sg (top d)*top r) r.length):Int)*Zd (Uj r d) x:=fun x=>Zbx _ x;by_cases h0:Qy (Kf r d ((top d).natAbs:Int) (sg (top d)*top r) r.length)=0
 ·have hz:Uj r d=[]:=Xu.2 (K4.1 h0);refine⟨((top d).natAbs:Int),1,U8 (r.length-d.length) [sg (top d)*top r],by omega,by decide,fun x => ?_⟩;have h1:=he x;have h2:=hp x;rw[h0] at h2;rw[Ud,hz];simp only[Zd];have h3:(((0:Nat):Int))*Zd (Uj r d) x=0:=by simp
  rw[h3] at h2;rw[h2] at h1;grind
 ·refine⟨((top d).natAbs:Int),(Qy (Kf r d ((top d).natAbs:Int) (sg (top d)*top r) r.length):Int),U8 (r.length-d.length) [sg (top d)*top r],by omega,by omega,fun x => ?_⟩;have h1:=he x;have h2:=hp x;rw[Ud];simp only[Zd];rw[<- h2,h1];grind
theorem Ln {d:List Int} (hd:Xw d) (hd0:d ≠ []):∀ (f:Nat) (r:List Int),∃ (c c':Int) (Q:List Int),0<c/\0<c'/\∀ x,c*Zd r x=Zd Q x*Zd d x+c'*Zd (Ul f r d) x
 | 0,r=>⟨1,1,[],by decide,by decide,fun x=>by simp[Zd,Ul]⟩
 | f+1,r=>by
  simp only[Ul];split
  ·rename_i hl;obtain⟨c,c',Q,h1,h2,h3⟩:=Zeb hd hd0 hl;obtain⟨e,e',S,g1,g2,g3⟩:=Ln hd hd0 f (Uj r d);refine⟨e*c,c'*e',Gs (Zw e Q) (Zw c' S),Int.mul_pos g1 h1,Int.mul_pos h2 g2,fun x => ?_⟩;have a:=h3 x;have b:=g3 x;rw[Qo,Zm,Zm,Int.mul_assoc e c,a,Int.mul_add,Int.mul_comm e (c'*_),Int.mul_assoc c',Int.mul_comm _ e,b];grind
  ·exact⟨1,1,[],by decide,by decide,fun x=>by simp[Zd]⟩
theorem Pq {a b:List Int} (hb:Xw b) (hb0:b ≠ []):∃ (c c':Int) (Q:List Int),0<c/\0<c'/\∀ x,c*Zd a x=Zd Q x*Zd b x+(-c')*Zd (Xz (Qs a b)) x:=by
 obtain⟨c,c',Q,h1,h2,h3⟩:=Ln hb hb0 a.length a;refine⟨c,c',Q,h1,h2,fun x => ?_⟩;rw[h3 x,Wh];unfold Qs;grind
theorem Ea {a b:List Int} (hb:Xw b) (hb0:b ≠ []) (h:IsG [1] a b):IsG [1] b (Xz (Qs a b)):=by
 obtain⟨c,c',Q,h1,h2,h3⟩:=Pq (a:=a) hb hb0;have h4:IsG [1] (Xz (Qs a b)) b:=IsG.step (r:=Xz (Qs a b)) (d:=b) (e:=a) (q:=Q) (a:=c') (m := -c) (by omega) (by omega) (fun x=>by
  have:=h3 x;grind) h.comm
 exact h4.comm
end Go.Ai

namespace Go.Ai
open Go.IntKind (i64 u64 u32)
def Hh (p:List Int) (x q:Int):Int:=hp p x q (p.length-1)
def Stb (p:List Int) (x q:Int):Prop:=(0<Hh p x q/\0<Hh p (x+1) q)\/(Hh p x q<0/\Hh p (x+1) q<0)
def InR (R q x:Int):Prop:=0<q/\(x.natAbs:Int)<=R*q/\((x+1).natAbs:Int)<=R*q
theorem U2 {q:Int} (h:0<q) (n:Nat):0<q^n:=Int.pow_pos h
theorem small (p:List Int) (R:Int) (hR:0<=R):∃ K:Int,0<=K/\∀ q x:Int,InR R q x->¬ Stb p x q->((Hh p x q).natAbs:Int)*q<=K*q^(p.length-1)/\((Hh p (x+1) q).natAbs:Int)*q<=K*q^(p.length-1):=by
 cases hn:p.length-1 with
 | zero =>
  refine⟨0,Int.le_refl _,fun q x _ hst => ?_⟩;have e:∀ y,Hh p y q=p.getD 0 0:=fun y=>by unfold Hh hp;rw[hn];rfl
  unfold Stb at hst;rw[e,e] at hst |-;have:p.getD 0 0=0:=by omega
  rw[this];simp
 | succ T =>
  obtain⟨K,hK,h⟩:=Zo3 (fun i=>p.getD i 0) R hR T;refine⟨K,hK,fun q x hr hst => ?_⟩;have h1:=h q x hr.1 hr.2.1 hr.2.2;have e:∀ y,Hh p y q=hs (fun i=>p.getD i 0) y q (T+1):=fun y=>by unfold Hh hp;rw[hn]
  unfold Stb at hst;rw[e,e] at hst;rw[e,e];generalize hs (fun i=>p.getD i 0) x q (T+1)=a at *
  generalize hs (fun i=>p.getD i 0) (x+1) q (T+1)=b at *
  have ha:(a.natAbs:Int)<=((b-a).natAbs:Int):=by omega
  have hb:(b.natAbs:Int)<=((b-a).natAbs:Int):=by omega
  have hq:=hr.1;rw[Int.pow_succ,<- Int.mul_assoc];exact⟨Int.mul_le_mul_of_nonneg_right (Int.le_trans ha h1) (by omega),Int.mul_le_mul_of_nonneg_right (Int.le_trans hb h1) (by omega)⟩
theorem hp_one (x q:Int) (T:Nat):hp [1] x q T=q^T:=by
 have:=Mu (p:=[1]) (T:=0) (by simp) x q T;rw[Nat.zero_add] at this;rw[this];show q^T*1=_;omega
theorem Mm {f g:List Int} (R:Int) (hR:0<=R) (h:IsG [1] f g):∃ L Q0:Int,0<L/\0<Q0/\∀ q x:Int,InR R q x->Q0<=q->¬ Stb f x q->q^(g.length-1)<=L*((Hh g x q).natAbs:Int):=by
 obtain⟨_,_,c,u,v,hc,hid⟩:=h;obtain⟨K,hK,hsm⟩:=small f R hR;obtain⟨Ku,hKu,hu⟩:=Bj (fun i=>u.getD i 0) R hR (max u.length v.length+(g.length-1));obtain⟨Kv,hKv,hv⟩:=Bj (fun i=>v.getD i 0) R hR (max u.length v.length+(f.length-1));refine⟨2*Kv+1,2*(Ku*K)+1,by omega,by have:=Int.mul_nonneg hKu hK;omega,fun q x hr hq hst => ?_⟩;obtain⟨hq0,hx,hx1⟩:=hr;have h1:=(hsm q x ⟨hq0,hx,hx1⟩ hst).1;have h2:=hu q x hq0 hx;have h3:=hv q x hq0 hx;have e1:=hp_id (r:=[1]) (d:=f) (e:=Xx v g) (Q:=u) (c:=c) (c':=1) (fun y=>by rw[Z1,hid y];omega) x q (tq:=max u.length v.length+(g.length-1)) (td:=f.length-1) (by omega) (by omega);have e2:=Zfi (r:=g) (tr:=g.length-1) (by omega) x q v (max u.length v.length+(f.length-1)) (by omega);have eT:max u.length v.length+(f.length-1)+(g.length-1)=max u.length v.length+(g.length-1)+(f.length-1):=by omega
 rw[eT] at e2;rw[e2,hp_one,Int.one_mul] at e1;change c*q^(max u.length v.length+(g.length-1)+(f.length-1))=hs (fun i=>u.getD i 0) x q (max u.length v.length+(g.length-1))*Hh f x q+hs (fun i=>v.getD i 0) x q (max u.length v.length+(f.length-1))*Hh g x q at e1;have ep:q^(max u.length v.length+(g.length-1)+(f.length-1))=q^(max u.length v.length+(f.length-1))*q^(g.length-1):=by rw[<- Int.pow_add,<- eT]
 have ep2:q^(max u.length v.length+(g.length-1))*q^(f.length-1)=q^(max u.length v.length+(f.length-1))*q^(g.length-1):=by rw[<- Int.pow_add,<- ep]
 have pa:=U2 hq0 (max u.length v.length+(f.length-1));have pb:=U2 hq0 (max u.length v.length+(g.length-1));have pm:=U2 hq0 (g.length-1);have pn:=U2 hq0 (f.length-1);rw[ep] at e1;generalize hs (fun i=>u.getD i 0) x q (max u.length v.length+(g.length-1))=U at *
 generalize hs (fun i=>v.getD i 0) x q (max u.length v.length+(f.length-1))=V at *
 generalize q^(max u.length v.length+(f.length-1))=A at *
 generalize q^(max u.length v.length+(g.length-1))=B at *
 generalize q^(g.length-1)=M at *
 generalize q^(f.length-1)=N at *
 generalize Hh f x q=F at *
 generalize Hh g x q=G at *
 have n1:((c*(A*M)).natAbs:Int)<=(U.natAbs:Int)*(F.natAbs:Int)+(V.natAbs:Int)*(G.natAbs:Int):=by
  rw[e1];exact Vu (Jm (Int.le_refl _) (Int.le_refl _)) (Jm (Int.le_refl _) (Int.le_refl _))
 have n2:A*M<=((c*(A*M)).natAbs:Int):=by
  rw[Int.natAbs_mul,Int.natCast_mul];have hAM:=Int.mul_pos pa pm;have:((A*M).natAbs:Int)=A*M:=Int.natAbs_of_nonneg (by omega);rw[this];have:=Int.mul_le_mul_of_nonneg_right (show (1:Int)<=(c.natAbs:Int) by omega) (show 0<=A*M by omega);omega
 have n3:(U.natAbs:Int)*(F.natAbs:Int)*q<=A*(Ku*K*M):=by
  have h5:(U.natAbs:Int)*((F.natAbs:Int)*q)<=Ku*B*(K*N):=Int.mul_le_mul h2 h1 (Int.mul_nonneg (by omega) (by omega)) (Int.mul_nonneg hKu (by omega));have e5:Ku*B*(K*N)=A*(Ku*K*M):=by
   have:Ku*B*(K*N)=Ku*K*(B*N):=by grind
   rw[this,ep2];grind
  rw[Int.mul_assoc];omega
 have n4:(V.natAbs:Int)*(G.natAbs:Int)*q<=A*(Kv*((G.natAbs:Int)*q)):=by
  have h5:=Int.mul_le_mul_of_nonneg_right h3 (Int.mul_nonneg (show (0:Int)<=(G.natAbs:Int) by omega) (show 0<=q by omega));rw[Int.mul_assoc];refine Int.le_trans h5 (Int.le_of_eq ?_);grind
 have n5:A*(M*q)<=A*(Ku*K*M+Kv*((G.natAbs:Int)*q)):=by
  have h6:=Int.mul_le_mul_of_nonneg_right (Int.le_trans n2 n1) (show 0<=q by omega);rw[Int.add_mul] at h6;rw[Int.mul_add];have:A*M*q=A*(M*q):=Int.mul_assoc ..;omega
 have n6:=Int.le_of_mul_le_mul_left n5 pa;have n7:2*(Ku*K*M)<=M*q:=by
  have h7:=Int.mul_le_mul_of_nonneg_left (show 2*(Ku*K)<=q by omega) (show 0<=M by omega);have:M*(2*(Ku*K))=2*(Ku*K*M):=by grind
  omega
 have n8:M*q<=2*Kv*(G.natAbs:Int)*q:=by
  have:2*Kv*(G.natAbs:Int)*q=2*(Kv*((G.natAbs:Int)*q)):=by grind
  omega
 have n9:M<=2*Kv*(G.natAbs:Int):=Int.le_of_mul_le_mul_right n8 hq0;have:(2*Kv+1)*(G.natAbs:Int)=2*Kv*(G.natAbs:Int)+(G.natAbs:Int):=by rw[Int.add_mul,Int.one_mul]
 omega
end Go.Ai
