/- Texts of the proof of RootValid, packed by pack.py: part 17 of 21. -/
import Derived.KernelRfl
import Derived.Test.YtopjpgejefileaaGreatRvp16
namespace Go.Proofs.YtopjpgejefileaaGreat
open Go.IntKind (i64 u64 u32)
open Go.Ai
set_option maxRecDepth 100000
def rtA (fs:List Rn) (r:Rn) (e:Int) (t:Rn) (f:Int):AV := .agg [.sl fs.length (pc fs),.bool r.1,.sl r.2.length (lm r.2),.int .i64 e,.bool t.1,.sl t.2.length (lm t.2),.int .i64 f]
def rtB (fs:List Rn) (r:Rn) (e:Int) (t:Rn) (f:Int):Reg := .box [.sl fs.length (pc fs),.bool r.1,.sl r.2.length (lm r.2),.int .i64 e,.bool t.1,.sl t.2.length (lm t.2),.int .i64 f]
theorem Zo9 (r:Rn) (e z:Int) (c1:(decide (e>=0))=true) (c2:(decide (e<=1024))=true) (n1:Zc Yir 102 [Zp r] (.int .i64 z)):Zc Yir 64 [dyR r e] (.bool (decide (z<=1024))):=Zc.go (fn:=Z34) Zd rfl 400 rfl [.b true,.b true,.r (.int .i64 z)] (ac c1 (ac c2 (ac n1 a0)))
theorem Zo8 (r:Rn) (e:Int) (c1:(decide (e>=0))=true) (c2:(decide (e<=1024))=false):Zc Yir 64 [dyR r e] (.bool false):=Zc.go (fn:=Z34) Zd rfl 400 rfl [.b true,.b false] (ac c1 (ac c2 a0))
theorem Zo7 (r:Rn) (e:Int) (c1:(decide (e>=0))=false):Zc Yir 64 [dyR r e] (.bool false):=Zc.go (fn:=Z34) Zd rfl 400 rfl [.b false,.b false] (ac c1 (ac (show false=false from rfl) a0))
theorem Zit (rs:List Rn) (b:Bool) (c1:(b)=false) (n1:Zc Yir 147 [.sl 1 [.sl rs.length (pc rs)]] (.bool b)):Zc Yir 148 [.sl rs.length (pc rs)] (.tup [.sl rs.length (pc rs),.int .i64 0]):=Zc.go (fn:=Zk6) Zd rfl 400 rfl [.r (.bool b),.b false] (ac n1 (ac c1 a0))
theorem Zju (rs ss:List Rn) (b:Bool) (c1:(b)=true) (n1:Zc Yir 147 [.sl 2 [.sl rs.length (pc rs),.sl ss.length (pc ss)]] (.bool b)):Zc Yir 100 [.sl rs.length (pc rs),.sl ss.length (pc ss)] (.tup [.sl 0 [],.int .i64 2]):=Zc.go (fn:=Ze2) Zd rfl 400 rfl [.r (.bool b),.b true] (ac n1 (ac c1 a0))
theorem Zjt (rs ss us:List Rn) (b:Bool) (e:Int) (c1:(b)=false) (n1:Zc Yir 147 [.sl 2 [.sl rs.length (pc rs),.sl ss.length (pc ss)]] (.bool b)) (n2:Zc Yir 149 [.sl rs.length (pc rs),.sl ss.length (pc ss)] (.fresh 2 us.length (pc us))) (n3:Zc Yir 148 [.sl us.length (pc us)] (.tup [.sl us.length (pc us),.int .i64 e])):Zc Yir 100 [.sl rs.length (pc rs),.sl ss.length (pc ss)] (.tup [.sl us.length (pc us),.int .i64 e]):=Zc.go (fn:=Ze2) Zd rfl 400 rfl [.r (.bool b),.b false,.r (.fresh 2 us.length (pc us)),.r (.tup [.sl us.length (pc us),.int .i64 e])] (ac n1 (ac c1 (ac n2 (ac n3 a0))))
theorem Zvu (rs us:List Rn) (e:Int) (n1:Zc Yir 100 [.sl rs.length (pc rs),.sl 0 []] (.tup [.sl us.length (pc us),.int .i64 e])):Zc Yir 52 [.sl rs.length (pc rs)] (.bool (e==0)):=Zc.go (fn:=Yi52) Zd rfl 400 rfl [.r (.tup [.sl us.length (pc us),.int .i64 e])] (ac n1 a0)
theorem Zp3 (fs:List Rn) (r t:Rn) (e f:Int) (d:Int) (b:Bool) (c1:(b)=true) (c2:(decide (d<1))=true) (n1:Zc Yir 52 [.sl fs.length (pc fs)] (.bool b)) (n2:Zc Yir 53 [.sl fs.length (pc fs)] (.int .i64 d)):Zc Yir 18 [rtA fs r e t f] (.bool false):=Zc.go (fn:=Zkt) Zd rfl 400 rfl [.r (.bool b),.b false,.r (.int .i64 d),.b true,.b true,.b true] (ac n1 (ac (show (!b)=false from (by rw [c1];rfl)) (ac n2 (ac c2 (ac (show true=true from rfl) (ac (show true=true from rfl) a0))))))
theorem Zp2 (fs:List Rn) (r t:Rn) (e f:Int) (ts:List Rn) (d c s:Int) (b v1 v2:Bool) (c1:(b)=true) (c2:(decide (d<1))=false) (c3:(v1)=true) (c4:(v2)=true) (c5:(c==0)=true) (n1:Zc Yir 52 [.sl fs.length (pc fs)] (.bool b)) (n2:Zc Yir 53 [.sl fs.length (pc fs)] (.int .i64 d)) (n3:Zc Yir 64 [dyR r e] (.bool v1)) (n4:Zc Yir 64 [dyR t f] (.bool v2)) (n5:Zc Yir 55 [dyR r e,dyR t f] (.int .i64 c)) (n6:Zc Yir 66 [.sl fs.length (pc fs)] (.fresh 2 ts.length (pc ts))) (n7:Zc Yir 65 [.sl ts.length (pc ts),dyR r e] (.int .i64 s)):Zc Yir 18 [rtA fs r e t f] (.bool (s==0)):=Zc.go (fn:=Zkt) Zd rfl 400 rfl [.r (.bool b),.b false,.r (.int .i64 d),.b false,.r (.bool v1),.b false,.r (.bool v2),.b false,.r (.int .i64 c),.b true,.r (.fresh 2 ts.length (pc ts)),.r (.int .i64 s)] (ac n1 (ac (show (!b)=false from (by rw [c1];rfl)) (ac n2 (ac c2 (ac n3 (ac (show (!v1)=false from (by rw [c3];rfl)) (ac n4 (ac (show (!v2)=false from (by rw [c4];rfl)) (ac n5 (ac c5 (ac n6 (ac n7 a0))))))))))))
theorem Zp1 (fs:List Rn) (r t:Rn) (e f:Int) (d c:Int) (b v1 v2:Bool) (c1:(b)=true) (c2:(decide (d<1))=false) (c3:(v1)=true) (c4:(v2)=true) (c5:(c==0)=false) (c6:(c==1)=true) (n1:Zc Yir 52 [.sl fs.length (pc fs)] (.bool b)) (n2:Zc Yir 53 [.sl fs.length (pc fs)] (.int .i64 d)) (n3:Zc Yir 64 [dyR r e] (.bool v1)) (n4:Zc Yir 64 [dyR t f] (.bool v2)) (n5:Zc Yir 55 [dyR r e,dyR t f] (.int .i64 c)):Zc Yir 18 [rtA fs r e t f] (.bool false):=Zc.go (fn:=Zkt) Zd rfl 400 rfl [.r (.bool b),.b false,.r (.int .i64 d),.b false,.r (.bool v1),.b false,.r (.bool v2),.b false,.r (.int .i64 c),.b false,.b true] (ac n1 (ac (show (!b)=false from (by rw [c1];rfl)) (ac n2 (ac c2 (ac n3 (ac (show (!v1)=false from (by rw [c3];rfl)) (ac n4 (ac (show (!v2)=false from (by rw [c4];rfl)) (ac n5 (ac c5 (ac c6 a0)))))))))))
theorem Zp0 (fs:List Rn) (r t:Rn) (e f:Int) (ls:List (List Rn)) (d c x y:Int) (b v1 v2:Bool) (c1:(b)=true) (c2:(decide (d<1))=false) (c3:(v1)=true) (c4:(v2)=true) (c5:(c==0)=false) (c6:(c==1)=false) (n1:Zc Yir 52 [.sl fs.length (pc fs)] (.bool b)) (n2:Zc Yir 53 [.sl fs.length (pc fs)] (.int .i64 d)) (n3:Zc Yir 64 [dyR r e] (.bool v1)) (n4:Zc Yir 64 [dyR t f] (.bool v2)) (n5:Zc Yir 55 [dyR r e,dyR t f] (.int .i64 c)) (n6:Zc Yir 67 [.sl fs.length (pc fs)] (.fresh 1 ls.length (pp ls))) (n7:Zc Yir 68 [.sl ls.length (pp ls),dyR r e] (.int .i64 x)) (n8:Zc Yir 68 [.sl ls.length (pp ls),dyR t f] (.int .i64 y)):Zc Yir 18 [rtA fs r e t f] (.bool ((i64.wrap (x-y))==1)):=Zc.go (fn:=Zkt) Zd rfl 400 rfl [.r (.bool b),.b false,.r (.int .i64 d),.b false,.r (.bool v1),.b false,.r (.bool v2),.b false,.r (.int .i64 c),.b false,.b false,.r (.fresh 1 ls.length (pp ls)),.r (.int .i64 x),.r (.int .i64 y)] (ac n1 (ac (show (!b)=false from (by rw [c1];rfl)) (ac n2 (ac c2 (ac n3 (ac (show (!v1)=false from (by rw [c3];rfl)) (ac n4 (ac (show (!v2)=false from (by rw [c4];rfl)) (ac n5 (ac c5 (ac c6 (ac n6 (ac n7 (ac n8 a0))))))))))))))
theorem Zpz (fs:List Rn) (r t:Rn) (e f:Int) (d:Int) (b v1 v2:Bool) (c1:(b)=true) (c2:(decide (d<1))=false) (c3:(v1)=true) (c4:(v2)=false) (n1:Zc Yir 52 [.sl fs.length (pc fs)] (.bool b)) (n2:Zc Yir 53 [.sl fs.length (pc fs)] (.int .i64 d)) (n3:Zc Yir 64 [dyR r e] (.bool v1)) (n4:Zc Yir 64 [dyR t f] (.bool v2)):Zc Yir 18 [rtA fs r e t f] (.bool false):=Zc.go (fn:=Zkt) Zd rfl 400 rfl [.r (.bool b),.b false,.r (.int .i64 d),.b false,.r (.bool v1),.b false,.r (.bool v2),.b true] (ac n1 (ac (show (!b)=false from (by rw [c1];rfl)) (ac n2 (ac c2 (ac n3 (ac (show (!v1)=false from (by rw [c3];rfl)) (ac n4 (ac (show (!v2)=true from (by rw [c4];rfl)) a0))))))))
theorem Zpy (fs:List Rn) (r t:Rn) (e f:Int) (d:Int) (b v1:Bool) (c1:(b)=true) (c2:(decide (d<1))=false) (c3:(v1)=false) (n1:Zc Yir 52 [.sl fs.length (pc fs)] (.bool b)) (n2:Zc Yir 53 [.sl fs.length (pc fs)] (.int .i64 d)) (n3:Zc Yir 64 [dyR r e] (.bool v1)):Zc Yir 18 [rtA fs r e t f] (.bool false):=Zc.go (fn:=Zkt) Zd rfl 400 rfl [.r (.bool b),.b false,.r (.int .i64 d),.b false,.r (.bool v1),.b true,.b true] (ac n1 (ac (show (!b)=false from (by rw [c1];rfl)) (ac n2 (ac c2 (ac n3 (ac (show (!v1)=true from (by rw [c3];rfl)) (ac (show true=true from rfl) a0)))))))
theorem Zpx (fs:List Rn) (r t:Rn) (e f:Int) (b:Bool) (c1:(b)=false) (n1:Zc Yir 52 [.sl fs.length (pc fs)] (.bool b)):Zc Yir 18 [rtA fs r e t f] (.bool false):=Zc.go (fn:=Zkt) Zd rfl 400 rfl [.r (.bool b),.b true,.b true,.b true,.b true] (ac n1 (ac (show (!b)=true from (by rw [c1];rfl)) (ac (show true=true from rfl) (ac (show true=true from rfl) (ac (show true=true from rfl) a0)))))
theorem Zx8 (fs:List Rn) (r t:Rn) (e f:Int) (c:Int) (n1:Zc Yir 55 [dyR r e,dyR t f] (.int .i64 c)):Zc Yir 125 [rtA fs r e t f] (.bool (c==0)):=Zc.go (fn:=Zle) Zd rfl 400 rfl [.r (.int .i64 c)] (ac n1 a0)
theorem Zow (fs:List Rn) (r t:Rn) (e f:Int) (q:Rn) (g c_qr:Int) (b:Bool) (c1:(b)=false) (c2:(decide (c_qr<=0))=true) (n1:Zc Yir 125 [rtA fs r e t f] (.bool b)) (n2:Zc Yir 55 [dyR q g,dyR r e] (.int .i64 c_qr)):Zc Yir 76 [rtA fs r e t f,dyR q g] (.int .i64 1):=Zc.go (fn:=Zkm) Zd rfl 400 rfl [.r (.bool b),.b false,.r (.int .i64 c_qr),.b true] (ac n1 (ac c1 (ac n2 (ac c2 a0))))
theorem Zov (fs:List Rn) (r t:Rn) (e f:Int) (q:Rn) (g c_qr c_qt:Int) (b:Bool) (c1:(b)=false) (c2:(decide (c_qr<=0))=false) (c3:(decide (c_qt>0))=true) (n1:Zc Yir 125 [rtA fs r e t f] (.bool b)) (n2:Zc Yir 55 [dyR q g,dyR r e] (.int .i64 c_qr)) (n3:Zc Yir 55 [dyR q g,dyR t f] (.int .i64 c_qt)):Zc Yir 76 [rtA fs r e t f,dyR q g] (.int .i64 (-1)):=Zc.go (fn:=Zkm) Zd rfl 400 rfl [.r (.bool b),.b false,.r (.int .i64 c_qr),.b false,.r (.int .i64 c_qt),.b true] (ac n1 (ac c1 (ac n2 (ac c2 (ac n3 (ac c3 a0))))))
theorem Zou (fs:List Rn) (r t:Rn) (e f:Int) (q:Rn) (g c_qr c_qt s_t:Int) (b:Bool) (c1:(b)=false) (c2:(decide (c_qr<=0))=false) (c3:(decide (c_qt>0))=false) (c4:(c_qt==0)=true) (c5:(s_t==0)=true) (n1:Zc Yir 125 [rtA fs r e t f] (.bool b)) (n2:Zc Yir 55 [dyR q g,dyR r e] (.int .i64 c_qr)) (n3:Zc Yir 55 [dyR q g,dyR t f] (.int .i64 c_qt)) (n4:Zc Yir 65 [.sl fs.length (pc fs),dyR t f] (.int .i64 s_t)):Zc Yir 76 [rtA fs r e t f,dyR q g] (.int .i64 0):=Zc.go (fn:=Zkm) Zd rfl 400 rfl [.r (.bool b),.b false,.r (.int .i64 c_qr),.b false,.r (.int .i64 c_qt),.b false,.r (.int .i64 s_t),.b true,.b true] (ac n1 (ac c1 (ac n2 (ac c2 (ac n3 (ac c3 (ac n4 (ac c4 (ac c5 a0)))))))))
theorem Zot (fs:List Rn) (r t:Rn) (e f:Int) (q:Rn) (g c_qr c_qt s_t:Int) (b:Bool) (c1:(b)=false) (c2:(decide (c_qr<=0))=false) (c3:(decide (c_qt>0))=false) (c4:(c_qt==0)=true) (c5:(s_t==0)=false) (n1:Zc Yir 125 [rtA fs r e t f] (.bool b)) (n2:Zc Yir 55 [dyR q g,dyR r e] (.int .i64 c_qr)) (n3:Zc Yir 55 [dyR q g,dyR t f] (.int .i64 c_qt)) (n4:Zc Yir 65 [.sl fs.length (pc fs),dyR t f] (.int .i64 s_t)):Zc Yir 76 [rtA fs r e t f,dyR q g] (.int .i64 (-1)):=Zc.go (fn:=Zkm) Zd rfl 400 rfl [.r (.bool b),.b false,.r (.int .i64 c_qr),.b false,.r (.int .i64 c_qt),.b false,.r (.int .i64 s_t),.b true,.b false] (ac n1 (ac c1 (ac n2 (ac c2 (ac n3 (ac c3 (ac n4 (ac c4 (ac c5 a0)))))))))
theorem Zos (fs:List Rn) (r t:Rn) (e f:Int) (q:Rn) (g c_qr c_qt s_t s_q:Int) (b:Bool) (c1:(b)=false) (c2:(decide (c_qr<=0))=false) (c3:(decide (c_qt>0))=false) (c4:(c_qt==0)=false) (c5:(s_q==0)=true) (n1:Zc Yir 125 [rtA fs r e t f] (.bool b)) (n2:Zc Yir 55 [dyR q g,dyR r e] (.int .i64 c_qr)) (n3:Zc Yir 55 [dyR q g,dyR t f] (.int .i64 c_qt)) (n4:Zc Yir 65 [.sl fs.length (pc fs),dyR t f] (.int .i64 s_t)) (n5:Zc Yir 65 [.sl fs.length (pc fs),dyR q g] (.int .i64 s_q)):Zc Yir 76 [rtA fs r e t f,dyR q g] (.int .i64 0):=Zc.go (fn:=Zkm) Zd rfl 400 rfl [.r (.bool b),.b false,.r (.int .i64 c_qr),.b false,.r (.int .i64 c_qt),.b false,.r (.int .i64 s_t),.b false,.r (.int .i64 s_q),.b true] (ac n1 (ac c1 (ac n2 (ac c2 (ac n3 (ac c3 (ac n4 (ac c4 (ac n5 (ac c5 a0))))))))))
theorem Zor (fs:List Rn) (r t:Rn) (e f:Int) (q:Rn) (g c_qr c_qt s_t s_q:Int) (b:Bool) (c1:(b)=false) (c2:(decide (c_qr<=0))=false) (c3:(decide (c_qt>0))=false) (c4:(c_qt==0)=false) (c5:(s_q==0)=false) (c6:(s_q==s_t)=true) (n1:Zc Yir 125 [rtA fs r e t f] (.bool b)) (n2:Zc Yir 55 [dyR q g,dyR r e] (.int .i64 c_qr)) (n3:Zc Yir 55 [dyR q g,dyR t f] (.int .i64 c_qt)) (n4:Zc Yir 65 [.sl fs.length (pc fs),dyR t f] (.int .i64 s_t)) (n5:Zc Yir 65 [.sl fs.length (pc fs),dyR q g] (.int .i64 s_q)):Zc Yir 76 [rtA fs r e t f,dyR q g] (.int .i64 (-1)):=Zc.go (fn:=Zkm) Zd rfl 400 rfl [.r (.bool b),.b false,.r (.int .i64 c_qr),.b false,.r (.int .i64 c_qt),.b false,.r (.int .i64 s_t),.b false,.r (.int .i64 s_q),.b false,.b true] (ac n1 (ac c1 (ac n2 (ac c2 (ac n3 (ac c3 (ac n4 (ac c4 (ac n5 (ac c5 (ac c6 a0)))))))))))
theorem Zoq (fs:List Rn) (r t:Rn) (e f:Int) (q:Rn) (g c_qr c_qt s_t s_q:Int) (b:Bool) (c1:(b)=false) (c2:(decide (c_qr<=0))=false) (c3:(decide (c_qt>0))=false) (c4:(c_qt==0)=false) (c5:(s_q==0)=false) (c6:(s_q==s_t)=false) (n1:Zc Yir 125 [rtA fs r e t f] (.bool b)) (n2:Zc Yir 55 [dyR q g,dyR r e] (.int .i64 c_qr)) (n3:Zc Yir 55 [dyR q g,dyR t f] (.int .i64 c_qt)) (n4:Zc Yir 65 [.sl fs.length (pc fs),dyR t f] (.int .i64 s_t)) (n5:Zc Yir 65 [.sl fs.length (pc fs),dyR q g] (.int .i64 s_q)):Zc Yir 76 [rtA fs r e t f,dyR q g] (.int .i64 1):=Zc.go (fn:=Zkm) Zd rfl 400 rfl [.r (.bool b),.b false,.r (.int .i64 c_qr),.b false,.r (.int .i64 c_qt),.b false,.r (.int .i64 s_t),.b false,.r (.int .i64 s_q),.b false,.b false] (ac n1 (ac c1 (ac n2 (ac c2 (ac n3 (ac c3 (ac n4 (ac c4 (ac n5 (ac c5 (ac c6 a0)))))))))))
theorem Zop (fs:List Rn) (r t:Rn) (e f:Int) (b:Bool) (c1:(b)=true) (n1:Zc Yir 125 [rtA fs r e t f] (.bool b)):Zc Yir 82 [rtA fs r e t f] (rtA fs r e t f):=Zc.go (fn:=Z3n) Zd rfl 400 rfl [.r (.bool b),.b true] (ac n1 (ac c1 a0))
theorem Zoo (fs:List Rn) (r t:Rn) (e f:Int) (n m s:Int) (b:Bool) (c1:(b)=false) (c2:(decide (s<=0))=true) (n1:Zc Yir 125 [rtA fs r e t f] (.bool b)) (n2:Zc Yir 133 [dyR r e,dyR t f] (dyR (cn n) m)) (n3:Zc Yir 76 [rtA fs r e t f,dyR (cn n) m] (.int .i64 s)):Zc Yir 82 [rtA fs r e t f] (rtA fs r e (cn n) m):=Zc.go (fn:=Z3n) Zd rfl 400 rfl [.r (.bool b),.b false,.r (dyR (cn n) m),.r (.int .i64 s),.b true] (ac n1 (ac c1 (ac n2 (ac n3 (ac c2 a0)))))
theorem Zon (fs:List Rn) (r t:Rn) (e f:Int) (n m s:Int) (b:Bool) (c1:(b)=false) (c2:(decide (s<=0))=false) (n1:Zc Yir 125 [rtA fs r e t f] (.bool b)) (n2:Zc Yir 133 [dyR r e,dyR t f] (dyR (cn n) m)) (n3:Zc Yir 76 [rtA fs r e t f,dyR (cn n) m] (.int .i64 s)):Zc Yir 82 [rtA fs r e t f] (rtA fs (cn n) m t f):=Zc.go (fn:=Z3n) Zd rfl 400 rfl [.r (.bool b),.b false,.r (dyR (cn n) m),.r (.int .i64 s),.b false] (ac n1 (ac c1 (ac n2 (ac n3 (ac c2 a0)))))
theorem Zjk (r:Rn) (e n:Int) (n1:Zc Yir 113 [Zp r] (Zi n)):Zc Yir 106 [dyR r e] (dyR (cn n) e):=Zc.go (fn:=Zlp) Zd rfl 400 rfl [.r (Zi n)] (ac n1 a0)
theorem Yrun57 (fs:List Rn) (r t:Rn) (e f:Int) (ts:List Rn) (n m u v:Int) (n1:Zc Yir 66 [.sl fs.length (pc fs)] (.fresh 2 ts.length (pc ts))) (n2:Zc Yir 106 [dyR r e] (dyR (cn n) m)) (n3:Zc Yir 106 [dyR t f] (dyR (cn u) v)):Zc Yir 57 [rtA fs r e t f] (rtA ts (cn n) m (cn u) v):=Zc.go (fn:=Yi57) Zd rfl 400 rfl [.r (.fresh 2 ts.length (pc ts)),.r (dyR (cn n) m),.r (dyR (cn u) v)] (ac n1 (ac n2 (ac n3 a0)))
theorem Zox (fs:List Rn) (r t:Rn) (e f:Int) (gs:List Rn) (n1:Zc Yir 114 [.sl fs.length (pc fs)] (.sl gs.length (pc gs))):Zc Yir 75 [rtA fs r e t f] (rtA gs r e t f):=Zc.go (fn:=Z5a) Zd rfl 400 rfl [.r (.sl gs.length (pc gs))] (ac n1 a0)
theorem Zoy (fs:List Rn) (r t:Rn) (e f:Int) (gs:List Rn) (n1:Zc Yir 114 [.sl fs.length (pc fs)] (.fresh 2 gs.length (pc gs))):Zc Yir 75 [rtA fs r e t f] (rtA gs r e t f):=Zc.go (fn:=Z5a) Zd rfl 400 rfl [.r (.fresh 2 gs.length (pc gs))] (ac n1 a0)
def Zd1 (fs:List Rn) (r0:Rn) (e0:Int) (t0:Rn) (f0:Int) (gs:List Rn) (r:Rn) (e:Int) (t:Rn) (f:Int) (m:Int) (i:Int):Zk:=(dds 2 (rtB fs r0 e0 t0 f0::(dds 1 (.box [.sl 0 [],.bool false,.sl 0 [],.int .i64 0,.bool false,.sl 0 [],.int .i64 0]::(.val (.int .i64 0)::(rtB gs r e t f::(dds 8 (.val (.int .i64 m)::(.val (.int .i64 i)::(dds 20 []))))))))))
theorem Yk30_1 (fs:List Rn) (r0:Rn) (e0:Int) (t0:Rn) (f0:Int) (gs:List Rn) (r:Rn) (e:Int) (t:Rn) (f:Int) (m:Int) (i:Int) (gs1:List Rn) (r1 t1:Rn) (e1 f1:Int) (c1:(decide (i<m))=true) (n1:Zc Yir 82 [rtA gs r e t f] (rtA gs1 r1 e1 t1 f1)):Za Yir Zv3 (Zd1 fs r0 e0 t0 f0 gs r e t f m i) .norm (Zd1 fs r0 e0 t0 f0 gs1 r1 e1 t1 f1 m (i64.wrap (i+1))):=(Za.go Zd 400 [.b true,.r (rtA gs1 r1 e1 t1 f1)] [2,4,5,6,15,16] (ac c1 (ac n1 a0)))
theorem Yk30_2 (fs:List Rn) (r0:Rn) (e0:Int) (t0:Rn) (f0:Int) (gs:List Rn) (r:Rn) (e:Int) (t:Rn) (f:Int) (m:Int) (i:Int)  (c1:(decide (i<m))=false):Za Yir Zv3 (Zd1 fs r0 e0 t0 f0 gs r e t f m i) (.exit 0) (Zd1 fs r0 e0 t0 f0 gs r e t f m i):=(Za.go Zd 400 [.b false] [2,4,5,6,15,16] (ac c1 a0))
theorem Zpp (fs:List Rn) (r t:Rn) (e f:Int) (gs ts hs:List Rn) (k i n m u v e1 f1:Int) (r1 t1:Rn) (b v1 v2:Bool) (c1:(b)=true) (c2:(v1)=true) (c3:(v2)=true) (n1:Zc Yir 18 [rtA fs r e t f] (.bool b)) (n2:Zc Yir 75 [rtA fs r e t f] (rtA gs r e t f)) (hl3:Za Yir (.loop Zv3) (Zd1 fs r e t f gs r e t f (if (if 256<k then 256 else k)>0 then (if 256<k then 256 else k) else 0) 0) (.exit 0) (Zd1 fs r e t f hs r1 e1 t1 f1 (if (if 256<k then 256 else k)>0 then (if 256<k then 256 else k) else 0) i)) (n4:Zc Yir 64 [dyR r1 e1] (.bool v1)) (n5:Zc Yir 64 [dyR t1 f1] (.bool v2)) (n6:Zc Yir 57 [rtA fs r1 e1 t1 f1] (rtA ts (cn n) m (cn u) v)):Zc Yir 30 [rtA fs r e t f,.int .i64 k] (.tup [rtA ts (cn n) m (cn u) v,.int .i64 0]):=Zc.of_bodyW (fn:=Zv0) (s:=(dds 4 (rtB ts (cn n) m (cn u) v::(.val (.int .i64 0)::(dds 31 []))))) (ex := .ret) rfl rfl (Za.asc (Za.asc (Za.csi (Za.seq (Za.go Zd 400 [.r (.bool b),.b false,.r (rtA gs r e t f)] [2,4,5,6,15,16] (ac n1 (ac (show (!b)=false from (by rw [c1];rfl)) (ac n2 a0)))) (Za.seq (Za.block hl3) (Za.go Zd 400 [.r (.bool v1),.b false,.r (.bool v2),.b false,.r (rtA ts (cn n) m (cn u) v)] [4,5] (ac n4 (ac (show (!v1)=false from (by rw [c2];rfl)) (ac n5 (ac (show (!v2)=false from (by rw [c3];rfl)) (ac n6 a0))))))))))) (by nofun) rfl
theorem Zpo (fs:List Rn) (r t:Rn) (e f:Int) (gs hs:List Rn) (k i e1 f1:Int) (r1 t1:Rn) (b v1 v2:Bool) (c1:(b)=true) (c2:(v1)=true) (c3:(v2)=false) (n1:Zc Yir 18 [rtA fs r e t f] (.bool b)) (n2:Zc Yir 75 [rtA fs r e t f] (rtA gs r e t f)) (hl3:Za Yir (.loop Zv3) (Zd1 fs r e t f gs r e t f (if (if 256<k then 256 else k)>0 then (if 256<k then 256 else k) else 0) 0) (.exit 0) (Zd1 fs r e t f hs r1 e1 t1 f1 (if (if 256<k then 256 else k)>0 then (if 256<k then 256 else k) else 0) i)) (n4:Zc Yir 64 [dyR r1 e1] (.bool v1)) (n5:Zc Yir 64 [dyR t1 f1] (.bool v2)):Zc Yir 30 [rtA fs r e t f,.int .i64 k] (.tup [.agg [.sl 0 [],.bool false,.sl 0 [],.int .i64 0,.bool false,.sl 0 [],.int .i64 0],.int .i64 9]):=Zc.of_bodyW (fn:=Zv0) (s:=(dds 4 (.box [.sl 0 [],.bool false,.sl 0 [],.int .i64 0,.bool false,.sl 0 [],.int .i64 0]::(.val (.int .i64 9)::(dds 31 []))))) (ex := .ret) rfl rfl (Za.asc (Za.asc (Za.csi (Za.seq (Za.go Zd 400 [.r (.bool b),.b false,.r (rtA gs r e t f)] [2,4,5,6,15,16] (ac n1 (ac (show (!b)=false from (by rw [c1];rfl)) (ac n2 a0)))) (Za.seq (Za.block hl3) (Za.go Zd 400 [.r (.bool v1),.b false,.r (.bool v2),.b true] [4,5] (ac n4 (ac (show (!v1)=false from (by rw [c2];rfl)) (ac n5 (ac (show (!v2)=true from (by rw [c3];rfl)) a0)))))))))) (by nofun) rfl
theorem Zpn (fs:List Rn) (r t:Rn) (e f:Int) (gs hs:List Rn) (k i e1 f1:Int) (r1 t1:Rn) (b v1:Bool) (c1:(b)=true) (c2:(v1)=false) (n1:Zc Yir 18 [rtA fs r e t f] (.bool b)) (n2:Zc Yir 75 [rtA fs r e t f] (rtA gs r e t f)) (hl3:Za Yir (.loop Zv3) (Zd1 fs r e t f gs r e t f (if (if 256<k then 256 else k)>0 then (if 256<k then 256 else k) else 0) 0) (.exit 0) (Zd1 fs r e t f hs r1 e1 t1 f1 (if (if 256<k then 256 else k)>0 then (if 256<k then 256 else k) else 0) i)) (n4:Zc Yir 64 [dyR r1 e1] (.bool v1)):Zc Yir 30 [rtA fs r e t f,.int .i64 k] (.tup [.agg [.sl 0 [],.bool false,.sl 0 [],.int .i64 0,.bool false,.sl 0 [],.int .i64 0],.int .i64 9]):=Zc.of_bodyW (fn:=Zv0) (s:=(dds 4 (.box [.sl 0 [],.bool false,.sl 0 [],.int .i64 0,.bool false,.sl 0 [],.int .i64 0]::(.val (.int .i64 9)::(dds 31 []))))) (ex := .ret) rfl rfl (Za.asc (Za.asc (Za.csi (Za.seq (Za.go Zd 400 [.r (.bool b),.b false,.r (rtA gs r e t f)] [2,4,5,6,15,16] (ac n1 (ac (show (!b)=false from (by rw [c1];rfl)) (ac n2 a0)))) (Za.seq (Za.block hl3) (Za.go Zd 400 [.r (.bool v1),.b true,.b true] [4,5] (ac n4 (ac (show (!v1)=true from (by rw [c2];rfl)) (ac (show true=true from rfl) a0))))))))) (by nofun) rfl
theorem Zpm (fs:List Rn) (r t:Rn) (e f:Int) (k:Int) (b:Bool) (c1:(b)=false) (n1:Zc Yir 18 [rtA fs r e t f] (.bool b)):Zc Yir 30 [rtA fs r e t f,.int .i64 k] (.tup [.agg [.sl 0 [],.bool false,.sl 0 [],.int .i64 0,.bool false,.sl 0 [],.int .i64 0],.int .i64 1]):=Zc.of_bodyW (fn:=Zv0) (s:=(dds 4 (.box [.sl 0 [],.bool false,.sl 0 [],.int .i64 0,.bool false,.sl 0 [],.int .i64 0]::(.val (.int .i64 1)::(dds 31 []))))) (ex := .ret) rfl rfl (Za.asc (Za.asc (Za.csi (Za.seq_out (Za.go Zd 400 [.r (.bool b),.b true] [4,5] (ac n1 (ac (show (!b)=true from (by rw [c1];rfl)) a0))) (by nofun))))) (by nofun) rfl
theorem Zpc (r:Rn) (e z:Int) (c1:(decide (e>=0))=true) (c2:(decide (e<=1024))=true) (n1:Zc Yir 51 [Zp r] (.int .i64 z)):Zc Yir 61 [dyR r e] (.bool (decide (z<=1024))):=Zc.go (fn:=Z38) Zd rfl 400 rfl [.b true,.b true,.r (.int .i64 z)] (ac c1 (ac c2 (ac n1 a0)))
theorem Zpb (r:Rn) (e:Int) (c1:(decide (e>=0))=true) (c2:(decide (e<=1024))=false):Zc Yir 61 [dyR r e] (.bool false):=Zc.go (fn:=Z38) Zd rfl 400 rfl [.b true,.b false] (ac c1 (ac c2 a0))
theorem Zpa (r:Rn) (e:Int) (c1:(decide (e>=0))=false):Zc Yir 61 [dyR r e] (.bool false):=Zc.go (fn:=Z38) Zd rfl 400 rfl [.b false,.b false] (ac c1 (ac (show false=false from rfl) a0))
theorem Yrun62 (rs:List Rn) (r:Rn) (e v s:Int) (n1:Zc Yir 80 [.sl rs.length (pc rs),Zp r,.int .i64 e] (Zi v)) (n2:Zc Yir 79 [Zi v] (.int .i64 s)):Zc Yir 62 [.sl rs.length (pc rs),dyR r e] (.bool (s==0)):=Zc.go (fn:=Yi62) Zd rfl 400 rfl [.r (Zi v),.r (.int .i64 s)] (ac n1 (ac n2 a0))
theorem Yrun63 (rs:List Rn) (ls:List (List Rn)) (r t:Rn) (e f x y:Int) (n1:Zc Yir 108 [.sl rs.length (pc rs)] (.fresh 1 ls.length (pp ls))) (n2:Zc Yir 110 [.sl ls.length (pp ls),dyR r e] (.int .i64 x)) (n3:Zc Yir 110 [.sl ls.length (pp ls),dyR t f] (.int .i64 y)):Zc Yir 63 [.sl rs.length (pc rs),dyR r e,dyR t f] (.int .i64 (i64.wrap (x-y))):=Zc.go (fn:=Yi63) Zd rfl 400 rfl [.r (.fresh 1 ls.length (pp ls)),.r (.int .i64 x),.r (.int .i64 y)] (ac n1 (ac n2 (ac n3 a0)))
theorem Zqa (fs:List Rn) (r t:Rn) (e f:Int) (b:Bool) (c1:(b)=true) (n1:Zc Yir 58 [.sl fs.length (pc fs)] (.bool b)):Zc Yir 17 [rtA fs r e t f] (.bool false):=Zc.go (fn:=Zkw) Zd rfl 400 rfl [.r (.bool b),.b true,.b true,.b true,.b true] (ac n1 (ac c1 (ac (show true=true from rfl) (ac (show true=true from rfl) (ac (show true=true from rfl) a0)))))
theorem Zp9 (fs:List Rn) (r t:Rn) (e f:Int) (d:Int) (b:Bool) (c1:(b)=false) (c2:(decide (d<1))=true) (n1:Zc Yir 58 [.sl fs.length (pc fs)] (.bool b)) (n2:Zc Yir 21 [.sl fs.length (pc fs)] (.int .i64 d)):Zc Yir 17 [rtA fs r e t f] (.bool false):=Zc.go (fn:=Zkw) Zd rfl 400 rfl [.r (.bool b),.b false,.r (.int .i64 d),.b true,.b true,.b true] (ac n1 (ac c1 (ac n2 (ac c2 (ac (show true=true from rfl) (ac (show true=true from rfl) a0))))))
theorem Zp8 (fs:List Rn) (r t:Rn) (e f:Int) (d c:Int) (b v1 v2 z:Bool) (c1:(b)=false) (c2:(decide (d<1))=false) (c3:(v1)=true) (c4:(v2)=true) (c5:(c==0)=true) (n1:Zc Yir 58 [.sl fs.length (pc fs)] (.bool b)) (n2:Zc Yir 21 [.sl fs.length (pc fs)] (.int .i64 d)) (n3:Zc Yir 61 [dyR r e] (.bool v1)) (n4:Zc Yir 61 [dyR t f] (.bool v2)) (n5:Zc Yir 33 [dyR r e,dyR t f] (.int .i64 c)) (n6:Zc Yir 62 [.sl fs.length (pc fs),dyR r e] (.bool z)):Zc Yir 17 [rtA fs r e t f] (.bool z):=Zc.go (fn:=Zkw) Zd rfl 400 rfl [.r (.bool b),.b false,.r (.int .i64 d),.b false,.r (.bool v1),.b false,.r (.bool v2),.b false,.r (.int .i64 c),.b true,.r (.bool z)] (ac n1 (ac c1 (ac n2 (ac c2 (ac n3 (ac (show (!v1)=false from (by rw [c3];rfl)) (ac n4 (ac (show (!v2)=false from (by rw [c4];rfl)) (ac n5 (ac c5 (ac n6 a0)))))))))))
theorem Zp7 (fs:List Rn) (r t:Rn) (e f:Int) (d c x:Int) (b v1 v2:Bool) (c1:(b)=false) (c2:(decide (d<1))=false) (c3:(v1)=true) (c4:(v2)=true) (c5:(c==0)=false) (c6:(c==(-1))=true) (n1:Zc Yir 58 [.sl fs.length (pc fs)] (.bool b)) (n2:Zc Yir 21 [.sl fs.length (pc fs)] (.int .i64 d)) (n3:Zc Yir 61 [dyR r e] (.bool v1)) (n4:Zc Yir 61 [dyR t f] (.bool v2)) (n5:Zc Yir 33 [dyR r e,dyR t f] (.int .i64 c)) (n6:Zc Yir 63 [.sl fs.length (pc fs),dyR r e,dyR t f] (.int .i64 x)):Zc Yir 17 [rtA fs r e t f] (.bool (x==1)):=Zc.go (fn:=Zkw) Zd rfl 400 rfl [.r (.bool b),.b false,.r (.int .i64 d),.b false,.r (.bool v1),.b false,.r (.bool v2),.b false,.r (.int .i64 c),.b false,.b true,.r (.int .i64 x)] (ac n1 (ac c1 (ac n2 (ac c2 (ac n3 (ac (show (!v1)=false from (by rw [c3];rfl)) (ac n4 (ac (show (!v2)=false from (by rw [c4];rfl)) (ac n5 (ac c5 (ac c6 (ac n6 a0))))))))))))
theorem Zp6 (fs:List Rn) (r t:Rn) (e f:Int) (d c:Int) (b v1 v2:Bool) (c1:(b)=false) (c2:(decide (d<1))=false) (c3:(v1)=true) (c4:(v2)=true) (c5:(c==0)=false) (c6:(c==(-1))=false) (n1:Zc Yir 58 [.sl fs.length (pc fs)] (.bool b)) (n2:Zc Yir 21 [.sl fs.length (pc fs)] (.int .i64 d)) (n3:Zc Yir 61 [dyR r e] (.bool v1)) (n4:Zc Yir 61 [dyR t f] (.bool v2)) (n5:Zc Yir 33 [dyR r e,dyR t f] (.int .i64 c)):Zc Yir 17 [rtA fs r e t f] (.bool false):=Zc.go (fn:=Zkw) Zd rfl 400 rfl [.r (.bool b),.b false,.r (.int .i64 d),.b false,.r (.bool v1),.b false,.r (.bool v2),.b false,.r (.int .i64 c),.b false,.b false] (ac n1 (ac c1 (ac n2 (ac c2 (ac n3 (ac (show (!v1)=false from (by rw [c3];rfl)) (ac n4 (ac (show (!v2)=false from (by rw [c4];rfl)) (ac n5 (ac c5 (ac c6 a0)))))))))))
theorem Zp5 (fs:List Rn) (r t:Rn) (e f:Int) (d:Int) (b v1 v2:Bool) (c1:(b)=false) (c2:(decide (d<1))=false) (c3:(v1)=true) (c4:(v2)=false) (n1:Zc Yir 58 [.sl fs.length (pc fs)] (.bool b)) (n2:Zc Yir 21 [.sl fs.length (pc fs)] (.int .i64 d)) (n3:Zc Yir 61 [dyR r e] (.bool v1)) (n4:Zc Yir 61 [dyR t f] (.bool v2)):Zc Yir 17 [rtA fs r e t f] (.bool false):=Zc.go (fn:=Zkw) Zd rfl 400 rfl [.r (.bool b),.b false,.r (.int .i64 d),.b false,.r (.bool v1),.b false,.r (.bool v2),.b true] (ac n1 (ac c1 (ac n2 (ac c2 (ac n3 (ac (show (!v1)=false from (by rw [c3];rfl)) (ac n4 (ac (show (!v2)=true from (by rw [c4];rfl)) a0))))))))
theorem Zp4 (fs:List Rn) (r t:Rn) (e f:Int) (d:Int) (b v1:Bool) (c1:(b)=false) (c2:(decide (d<1))=false) (c3:(v1)=false) (n1:Zc Yir 58 [.sl fs.length (pc fs)] (.bool b)) (n2:Zc Yir 21 [.sl fs.length (pc fs)] (.int .i64 d)) (n3:Zc Yir 61 [dyR r e] (.bool v1)):Zc Yir 17 [rtA fs r e t f] (.bool false):=Zc.go (fn:=Zkw) Zd rfl 400 rfl [.r (.bool b),.b false,.r (.int .i64 d),.b false,.r (.bool v1),.b true,.b true] (ac n1 (ac c1 (ac n2 (ac c2 (ac n3 (ac (show (!v1)=true from (by rw [c3];rfl)) (ac (show true=true from rfl) a0)))))))
theorem Yrun20 (fs:List Rn) (r t:Rn) (e f:Int) (gs:List Rn) (n1:Zc Yir 73 [.sl fs.length (pc fs)] (.sl gs.length (pc gs))):Zc Yir 20 [rtA fs r e t f] (rtA gs r e t f):=Zc.go (fn:=Yi20) Zd rfl 400 rfl [.r (.sl gs.length (pc gs))] (ac n1 a0)
theorem Zpw (fs:List Rn) (r t:Rn) (e f:Int) (q:Rn) (g c_qr c_qt c_rt:Int) (c1:(c_rt==0)=false) (c2:(decide (c_qr<=0))=true) (n1:Zc Yir 33 [dyR q g,dyR r e] (.int .i64 c_qr)) (n2:Zc Yir 33 [dyR q g,dyR t f] (.int .i64 c_qt)) (n3:Zc Yir 33 [dyR r e,dyR t f] (.int .i64 c_rt)):Zc Yir 27 [rtA fs r e t f,dyR q g] (.int .i64 1):=Zc.go (fn:=Zml) Zd rfl 400 rfl [.r (.int .i64 c_qr),.r (.int .i64 c_qt),.r (.int .i64 c_rt),.b false,.b true] (ac n1 (ac n2 (ac n3 (ac c1 (ac c2 a0)))))
theorem Zpv (fs:List Rn) (r t:Rn) (e f:Int) (q:Rn) (g c_qr c_qt c_rt:Int) (c1:(c_rt==0)=false) (c2:(decide (c_qr<=0))=false) (c3:(decide (c_qt>0))=true) (n1:Zc Yir 33 [dyR q g,dyR r e] (.int .i64 c_qr)) (n2:Zc Yir 33 [dyR q g,dyR t f] (.int .i64 c_qt)) (n3:Zc Yir 33 [dyR r e,dyR t f] (.int .i64 c_rt)):Zc Yir 27 [rtA fs r e t f,dyR q g] (.int .i64 (-1)):=Zc.go (fn:=Zml) Zd rfl 400 rfl [.r (.int .i64 c_qr),.r (.int .i64 c_qt),.r (.int .i64 c_rt),.b false,.b false,.b true] (ac n1 (ac n2 (ac n3 (ac c1 (ac c2 (ac c3 a0))))))
theorem Zpu (fs:List Rn) (r t:Rn) (e f:Int) (q:Rn) (g c_qr c_qt c_rt v w s_t s_q:Int) (c1:(c_rt==0)=false) (c2:(decide (c_qr<=0))=false) (c3:(decide (c_qt>0))=false) (c4:(s_q==0)=true) (n1:Zc Yir 33 [dyR q g,dyR r e] (.int .i64 c_qr)) (n2:Zc Yir 33 [dyR q g,dyR t f] (.int .i64 c_qt)) (n3:Zc Yir 33 [dyR r e,dyR t f] (.int .i64 c_rt)) (n4:Zc Yir 80 [.sl fs.length (pc fs),Zp q,.int .i64 g] (Zi v)) (n5:Zc Yir 79 [Zi v] (.int .i64 s_q)) (n6:Zc Yir 80 [.sl fs.length (pc fs),Zp t,.int .i64 f] (Zi w)) (n7:Zc Yir 79 [Zi w] (.int .i64 s_t)):Zc Yir 27 [rtA fs r e t f,dyR q g] (.int .i64 0):=Zc.go (fn:=Zml) Zd rfl 400 rfl [.r (.int .i64 c_qr),.r (.int .i64 c_qt),.r (.int .i64 c_rt),.b false,.b false,.b false,.r (Zi v),.r (.int .i64 s_q),.r (Zi w),.r (.int .i64 s_t),.b true] (ac n1 (ac n2 (ac n3 (ac c1 (ac c2 (ac c3 (ac n4 (ac n5 (ac n6 (ac n7 (ac c4 a0)))))))))))
theorem Zpt (fs:List Rn) (r t:Rn) (e f:Int) (q:Rn) (g c_qr c_qt c_rt v w s_t s_q:Int) (c1:(c_rt==0)=false) (c2:(decide (c_qr<=0))=false) (c3:(decide (c_qt>0))=false) (c4:(s_q==0)=false) (c5:(s_t==0)=true) (n1:Zc Yir 33 [dyR q g,dyR r e] (.int .i64 c_qr)) (n2:Zc Yir 33 [dyR q g,dyR t f] (.int .i64 c_qt)) (n3:Zc Yir 33 [dyR r e,dyR t f] (.int .i64 c_rt)) (n4:Zc Yir 80 [.sl fs.length (pc fs),Zp q,.int .i64 g] (Zi v)) (n5:Zc Yir 79 [Zi v] (.int .i64 s_q)) (n6:Zc Yir 80 [.sl fs.length (pc fs),Zp t,.int .i64 f] (Zi w)) (n7:Zc Yir 79 [Zi w] (.int .i64 s_t)):Zc Yir 27 [rtA fs r e t f,dyR q g] (.int .i64 1):=Zc.go (fn:=Zml) Zd rfl 400 rfl [.r (.int .i64 c_qr),.r (.int .i64 c_qt),.r (.int .i64 c_rt),.b false,.b false,.b false,.r (Zi v),.r (.int .i64 s_q),.r (Zi w),.r (.int .i64 s_t),.b false,.b true] (ac n1 (ac n2 (ac n3 (ac c1 (ac c2 (ac c3 (ac n4 (ac n5 (ac n6 (ac n7 (ac c4 (ac c5 a0))))))))))))
theorem Zps (fs:List Rn) (r t:Rn) (e f:Int) (q:Rn) (g c_qr c_qt c_rt v w s_t s_q:Int) (c1:(c_rt==0)=false) (c2:(decide (c_qr<=0))=false) (c3:(decide (c_qt>0))=false) (c4:(s_q==0)=false) (c5:(s_t==0)=false) (c6:(s_q==s_t)=true) (n1:Zc Yir 33 [dyR q g,dyR r e] (.int .i64 c_qr)) (n2:Zc Yir 33 [dyR q g,dyR t f] (.int .i64 c_qt)) (n3:Zc Yir 33 [dyR r e,dyR t f] (.int .i64 c_rt)) (n4:Zc Yir 80 [.sl fs.length (pc fs),Zp q,.int .i64 g] (Zi v)) (n5:Zc Yir 79 [Zi v] (.int .i64 s_q)) (n6:Zc Yir 80 [.sl fs.length (pc fs),Zp t,.int .i64 f] (Zi w)) (n7:Zc Yir 79 [Zi w] (.int .i64 s_t)):Zc Yir 27 [rtA fs r e t f,dyR q g] (.int .i64 (-1)):=Zc.go (fn:=Zml) Zd rfl 400 rfl [.r (.int .i64 c_qr),.r (.int .i64 c_qt),.r (.int .i64 c_rt),.b false,.b false,.b false,.r (Zi v),.r (.int .i64 s_q),.r (Zi w),.r (.int .i64 s_t),.b false,.b false,.b true] (ac n1 (ac n2 (ac n3 (ac c1 (ac c2 (ac c3 (ac n4 (ac n5 (ac n6 (ac n7 (ac c4 (ac c5 (ac c6 a0)))))))))))))
theorem Zpr (fs:List Rn) (r t:Rn) (e f:Int) (q:Rn) (g c_qr c_qt c_rt v w s_t s_q:Int) (c1:(c_rt==0)=false) (c2:(decide (c_qr<=0))=false) (c3:(decide (c_qt>0))=false) (c4:(s_q==0)=false) (c5:(s_t==0)=false) (c6:(s_q==s_t)=false) (n1:Zc Yir 33 [dyR q g,dyR r e] (.int .i64 c_qr)) (n2:Zc Yir 33 [dyR q g,dyR t f] (.int .i64 c_qt)) (n3:Zc Yir 33 [dyR r e,dyR t f] (.int .i64 c_rt)) (n4:Zc Yir 80 [.sl fs.length (pc fs),Zp q,.int .i64 g] (Zi v)) (n5:Zc Yir 79 [Zi v] (.int .i64 s_q)) (n6:Zc Yir 80 [.sl fs.length (pc fs),Zp t,.int .i64 f] (Zi w)) (n7:Zc Yir 79 [Zi w] (.int .i64 s_t)):Zc Yir 27 [rtA fs r e t f,dyR q g] (.int .i64 1):=Zc.go (fn:=Zml) Zd rfl 400 rfl [.r (.int .i64 c_qr),.r (.int .i64 c_qt),.r (.int .i64 c_rt),.b false,.b false,.b false,.r (Zi v),.r (.int .i64 s_q),.r (Zi w),.r (.int .i64 s_t),.b false,.b false,.b false] (ac n1 (ac n2 (ac n3 (ac c1 (ac c2 (ac c3 (ac n4 (ac n5 (ac n6 (ac n7 (ac c4 (ac c5 (ac c6 a0)))))))))))))
theorem Zo1 (fs:List Rn) (r t:Rn) (e f:Int) (c:Int) (c1:(c==0)=true) (n1:Zc Yir 33 [dyR r e,dyR t f] (.int .i64 c)):Zc Yir 72 [rtA fs r e t f] (rtA fs r e t f):=Zc.go (fn:=Z3x) Zd rfl 400 rfl [.r (.int .i64 c),.b true] (ac n1 (ac c1 a0))
theorem Zo0 (fs:List Rn) (r t:Rn) (e f:Int) (n m s c:Int) (c1:(c==0)=false) (c2:(decide (s<=0))=true) (n1:Zc Yir 33 [dyR r e,dyR t f] (.int .i64 c)) (n2:Zc Yir 121 [dyR r e,dyR t f] (dyR (cn n) m)) (n3:Zc Yir 27 [rtA fs r e t f,dyR (cn n) m] (.int .i64 s)):Zc Yir 72 [rtA fs r e t f] (rtA fs r e (cn n) m):=Zc.go (fn:=Z3x) Zd rfl 400 rfl [.r (.int .i64 c),.b false,.r (dyR (cn n) m),.r (.int .i64 s),.b true] (ac n1 (ac c1 (ac n2 (ac n3 (ac c2 a0)))))
theorem Zoz (fs:List Rn) (r t:Rn) (e f:Int) (n m s c:Int) (c1:(c==0)=false) (c2:(decide (s<=0))=false) (n1:Zc Yir 33 [dyR r e,dyR t f] (.int .i64 c)) (n2:Zc Yir 121 [dyR r e,dyR t f] (dyR (cn n) m)) (n3:Zc Yir 27 [rtA fs r e t f,dyR (cn n) m] (.int .i64 s)):Zc Yir 72 [rtA fs r e t f] (rtA fs (cn n) m t f):=Zc.go (fn:=Z3x) Zd rfl 400 rfl [.r (.int .i64 c),.b false,.r (dyR (cn n) m),.r (.int .i64 s),.b false] (ac n1 (ac c1 (ac n2 (ac n3 (ac c2 a0)))))
def Zd0 (fs:List Rn) (r0:Rn) (e0:Int) (t0:Rn) (f0:Int) (gs:List Rn) (r:Rn) (e:Int) (t:Rn) (f:Int) (k:Int) (i:Int):Zk:=(dds 1 (.val (.int .i64 k)::(rtB fs r0 e0 t0 f0::(dds 1 (.box [.sl 0 [],.bool false,.sl 0 [],.int .i64 0,.bool false,.sl 0 [],.int .i64 0]::(.val (.int .i64 0)::(rtB gs r e t f::(.val (.int .i64 i)::(dds 36 [])))))))))
theorem Yk31_1 (fs:List Rn) (r0:Rn) (e0:Int) (t0:Rn) (f0:Int) (gs:List Rn) (r:Rn) (e:Int) (t:Rn) (f:Int) (k:Int) (i:Int) (gs1:List Rn) (r1 t1:Rn) (e1 f1:Int) (c1:(decide (i<k))=true) (c2:(decide (i<256))=true) (n1:Zc Yir 72 [rtA gs r e t f] (rtA gs1 r1 e1 t1 f1)):Za Yir Zv2 (Zd0 fs r0 e0 t0 f0 gs r e t f k i) .norm (Zd0 fs r0 e0 t0 f0 gs1 r1 e1 t1 f1 k (i64.wrap (i+1))):=(Za.go Zd 400 [.b true,.b true,.r (rtA gs1 r1 e1 t1 f1)] [1,2,4,5,6,7] (ac c1 (ac c2 (ac n1 a0))))
theorem Yk31_3 (fs:List Rn) (r0:Rn) (e0:Int) (t0:Rn) (f0:Int) (gs:List Rn) (r:Rn) (e:Int) (t:Rn) (f:Int) (k:Int) (i:Int)  (c1:(decide (i<k))=false):Za Yir Zv2 (Zd0 fs r0 e0 t0 f0 gs r e t f k i) (.exit 0) (Zd0 fs r0 e0 t0 f0 gs r e t f k i):=(Za.go Zd 400 [.b false,.b false] [1,2,4,5,6,7] (ac c1 (ac (show false=false from rfl) a0)))
theorem Zpl (fs:List Rn) (r t:Rn) (e f:Int) (gs ts hs:List Rn) (k i e1 f1:Int) (r1 t1:Rn) (b v1 v2:Bool) (c1:(b)=true) (c2:(v1)=true) (c3:(v2)=true) (n1:Zc Yir 17 [rtA fs r e t f] (.bool b)) (n2:Zc Yir 20 [rtA fs r e t f] (rtA gs r e t f)) (hl3:Za Yir (.loop Zv2) (Zd0 fs r e t f gs r e t f k 0) (.exit 0) (Zd0 fs r e t f hs r1 e1 t1 f1 k i)) (n4:Zc Yir 61 [dyR r1 e1] (.bool v1)) (n5:Zc Yir 61 [dyR t1 f1] (.bool v2)) (n6:Zc Yir 46 [.sl fs.length (pc fs)] (.fresh 2 ts.length (pc ts))):Zc Yir 31 [rtA fs r e t f,.int .i64 k] (.tup [rtA ts r1 e1 t1 f1,.int .i64 0]):=Zc.of_bodyW (fn:=Zvz) (s:=(dds 4 (rtB ts r1 e1 t1 f1::(.val (.int .i64 0)::(dds 38 []))))) (ex := .ret) rfl rfl (Za.asc (Za.asc (Za.csi (Za.seq (Za.go Zd 400 [.r (.bool b),.b false,.r (rtA gs r e t f)] [1,2,4,5,6,7] (ac n1 (ac (show (!b)=false from (by rw [c1];rfl)) (ac n2 a0)))) (Za.seq (Za.block hl3) (Za.go Zd 400 [.r (.bool v1),.b false,.r (.bool v2),.b false,.r (.fresh 2 ts.length (pc ts))] [4,5] (ac n4 (ac (show (!v1)=false from (by rw [c2];rfl)) (ac n5 (ac (show (!v2)=false from (by rw [c3];rfl)) (ac n6 a0))))))))))) (by nofun) rfl
theorem Zpk (fs:List Rn) (r t:Rn) (e f:Int) (gs hs:List Rn) (k i e1 f1:Int) (r1 t1:Rn) (b v1 v2:Bool) (c1:(b)=true) (c2:(v1)=true) (c3:(v2)=false) (n1:Zc Yir 17 [rtA fs r e t f] (.bool b)) (n2:Zc Yir 20 [rtA fs r e t f] (rtA gs r e t f)) (hl3:Za Yir (.loop Zv2) (Zd0 fs r e t f gs r e t f k 0) (.exit 0) (Zd0 fs r e t f hs r1 e1 t1 f1 k i)) (n4:Zc Yir 61 [dyR r1 e1] (.bool v1)) (n5:Zc Yir 61 [dyR t1 f1] (.bool v2)):Zc Yir 31 [rtA fs r e t f,.int .i64 k] (.tup [.agg [.sl 0 [],.bool false,.sl 0 [],.int .i64 0,.bool false,.sl 0 [],.int .i64 0],.int .i64 9]):=Zc.of_bodyW (fn:=Zvz) (s:=(dds 4 (.box [.sl 0 [],.bool false,.sl 0 [],.int .i64 0,.bool false,.sl 0 [],.int .i64 0]::(.val (.int .i64 9)::(dds 38 []))))) (ex := .ret) rfl rfl (Za.asc (Za.asc (Za.csi (Za.seq (Za.go Zd 400 [.r (.bool b),.b false,.r (rtA gs r e t f)] [1,2,4,5,6,7] (ac n1 (ac (show (!b)=false from (by rw [c1];rfl)) (ac n2 a0)))) (Za.seq (Za.block hl3) (Za.go Zd 400 [.r (.bool v1),.b false,.r (.bool v2),.b true] [4,5] (ac n4 (ac (show (!v1)=false from (by rw [c2];rfl)) (ac n5 (ac (show (!v2)=true from (by rw [c3];rfl)) a0)))))))))) (by nofun) rfl
theorem Zpj (fs:List Rn) (r t:Rn) (e f:Int) (gs hs:List Rn) (k i e1 f1:Int) (r1 t1:Rn) (b v1:Bool) (c1:(b)=true) (c2:(v1)=false) (n1:Zc Yir 17 [rtA fs r e t f] (.bool b)) (n2:Zc Yir 20 [rtA fs r e t f] (rtA gs r e t f)) (hl3:Za Yir (.loop Zv2) (Zd0 fs r e t f gs r e t f k 0) (.exit 0) (Zd0 fs r e t f hs r1 e1 t1 f1 k i)) (n4:Zc Yir 61 [dyR r1 e1] (.bool v1)):Zc Yir 31 [rtA fs r e t f,.int .i64 k] (.tup [.agg [.sl 0 [],.bool false,.sl 0 [],.int .i64 0,.bool false,.sl 0 [],.int .i64 0],.int .i64 9]):=Zc.of_bodyW (fn:=Zvz) (s:=(dds 4 (.box [.sl 0 [],.bool false,.sl 0 [],.int .i64 0,.bool false,.sl 0 [],.int .i64 0]::(.val (.int .i64 9)::(dds 38 []))))) (ex := .ret) rfl rfl (Za.asc (Za.asc (Za.csi (Za.seq (Za.go Zd 400 [.r (.bool b),.b false,.r (rtA gs r e t f)] [1,2,4,5,6,7] (ac n1 (ac (show (!b)=false from (by rw [c1];rfl)) (ac n2 a0)))) (Za.seq (Za.block hl3) (Za.go Zd 400 [.r (.bool v1),.b true,.b true] [4,5] (ac n4 (ac (show (!v1)=true from (by rw [c2];rfl)) (ac (show true=true from rfl) a0))))))))) (by nofun) rfl
theorem Zpi (fs:List Rn) (r t:Rn) (e f:Int) (k:Int) (b:Bool) (c1:(b)=false) (n1:Zc Yir 17 [rtA fs r e t f] (.bool b)):Zc Yir 31 [rtA fs r e t f,.int .i64 k] (.tup [.agg [.sl 0 [],.bool false,.sl 0 [],.int .i64 0,.bool false,.sl 0 [],.int .i64 0],.int .i64 1]):=Zc.of_bodyW (fn:=Zvz) (s:=(dds 4 (.box [.sl 0 [],.bool false,.sl 0 [],.int .i64 0,.bool false,.sl 0 [],.int .i64 0]::(.val (.int .i64 1)::(dds 38 []))))) (ex := .ret) rfl rfl (Za.asc (Za.asc (Za.csi (Za.seq_out (Za.go Zd 400 [.r (.bool b),.b true] [4,5] (ac n1 (ac (show (!b)=true from (by rw [c1];rfl)) a0))) (by nofun))))) (by nofun) rfl
def Lw (o:Bool) (rs:List Rn) (i:Int):Zk:=(.val (.sl rs.length (pc rs))::(dds 1 (.val (.bool o)::(.val (.int .i64 i)::(dds 24 [])))))
theorem Yk13_1 (o:Bool) (rs:List Rn) (i:Int) (z:Int) (c1:(decide (i<(rs.length:Int)))=true) (c2:(decide (z>100))=true) (n1:0<=i/\i<(rs.length:Int)) (n2:Zc Yir 51 [Zp (rs.getD (Int.toNat i) z0)] (.int .i64 z)):Za Yir Zly (Lw o rs i) .ret (Lw false rs i):=(Za.go Zd 400 [.b true,.v (Zp (rs.getD (Int.toNat i) z0)),.r (.int .i64 z),.b true,.b true] [0,2,3] (ac c1 (ac n1 (ac (Z9 n1) (ac n2 (ac c2 (ac (show true=true from rfl) a0)))))))
theorem Yk13_2 (o:Bool) (rs:List Rn) (i:Int) (z:Int) (c1:(decide (i<(rs.length:Int)))=true) (c2:(decide (z>100))=false) (c3:(decide ((((rs.getD (Int.toNat i) z0).2.length:Nat):Int)>5))=true) (n1:0<=i/\i<(rs.length:Int)) (n2:Zc Yir 51 [Zp (rs.getD (Int.toNat i) z0)] (.int .i64 z)):Za Yir Zly (Lw o rs i) .ret (Lw false rs i):=(Za.go Zd 400 [.b true,.v (Zp (rs.getD (Int.toNat i) z0)),.r (.int .i64 z),.b false,.v (.sl ((rs.getD (Int.toNat i) z0).2.length) (lm (rs.getD (Int.toNat i) z0).2)),.b true] [0,2,3] (ac c1 (ac n1 (ac (Z9 n1) (ac n2 (ac c2 (ac n1 (ac (Zbe n1) (ac c3 a0)))))))))
theorem Yk13_3 (o:Bool) (rs:List Rn) (i:Int) (z:Int) (c1:(decide (i<(rs.length:Int)))=true) (c2:(decide (z>100))=false) (c3:(decide ((((rs.getD (Int.toNat i) z0).2.length:Nat):Int)>5))=false) (n1:0<=i/\i<(rs.length:Int)) (n2:Zc Yir 51 [Zp (rs.getD (Int.toNat i) z0)] (.int .i64 z)):Za Yir Zly (Lw o rs i) .norm (Lw o rs (i64.wrap (i+1))):=(Za.go Zd 400 [.b true,.v (Zp (rs.getD (Int.toNat i) z0)),.r (.int .i64 z),.b false,.v (.sl ((rs.getD (Int.toNat i) z0).2.length) (lm (rs.getD (Int.toNat i) z0).2)),.b false] [0,2,3] (ac c1 (ac n1 (ac (Z9 n1) (ac n2 (ac c2 (ac n1 (ac (Zbe n1) (ac c3 a0)))))))))
theorem Yk13_4 (o:Bool) (rs:List Rn) (i:Int)  (c1:(decide (i<(rs.length:Int)))=false):Za Yir Zly (Lw o rs i) (.exit 0) (Lw o rs i):=(Za.go Zd 400 [.b false] [0,2,3] (ac c1 a0))
theorem Zeh (rs:List Rn) (c1:(decide ((rs.length:Int)>9))=true):Zc Yir 13 [.sl rs.length (pc rs)] (.bool false):=Zc.of_bodyW (fn:=Z41) (s:=(dds 2 (.val (.bool false)::(dds 25 [])))) (ex := .ret) rfl rfl (Za.asc (Za.csi (Za.seq_out (Za.go Zd 400 [.b true] [2] (ac c1 a0)) (by nofun)))) (by nofun) rfl
theorem Zeg (rs:List Rn) (i:Int) (c1:(decide ((rs.length:Int)>9))=false) (hl1:Za Yir (.loop Zly) (Lw false rs 0) .ret (Lw false rs i)):Zc Yir 13 [.sl rs.length (pc rs)] (.bool false):=Zc.of_bodyW (fn:=Z41) (s:=(.val (.sl rs.length (pc rs))::(dds 1 (.val (.bool false)::(.val (.int .i64 i)::(dds 24 [])))))) (ex := .ret) rfl rfl (Za.asc (Za.csi (Za.seq (Za.go Zd 400 [.b false] [0,2,3] (ac c1 a0)) (Za.seq_out (Za.block_ret hl1) (by nofun))))) (by nofun) rfl
theorem Zef (rs:List Rn) (i:Int) (c1:(decide ((rs.length:Int)>9))=false) (hl1:Za Yir (.loop Zly) (Lw false rs 0) (.exit 0) (Lw false rs i)):Zc Yir 13 [.sl rs.length (pc rs)] (.bool true):=Zc.of_bodyW (fn:=Z41) (s:=(dds 2 (.val (.bool true)::(dds 25 [])))) (ex := .ret) rfl rfl (Za.asc (Za.csi (Za.seq (Za.go Zd 400 [.b false] [0,2,3] (ac c1 a0)) (Za.seq (Za.block hl1) (Za.go Zd 400 [] [2] a0))))) (by nofun) rfl
def Zxa (o:Bool) (rs:List Rn) (ss:List Rn) (i:Int):Zk:=(.val (.sl rs.length (pc rs))::(.val (.sl ss.length (pc ss))::(dds 2 (.val (.bool o)::(.val (.int .i64 i)::(dds 21 []))))))
theorem Yk32_1 (o:Bool) (rs:List Rn) (ss:List Rn) (i:Int) (b:Bool) (c1:(decide (i<(rs.length:Int)))=true) (c2:(b)=true) (n1:0<=i/\i<(rs.length:Int)) (n2:0<=i/\i<(ss.length:Int)) (n3:Zc Yir 28 [Zp (rs.getD (Int.toNat i) z0),Zp (ss.getD (Int.toNat i) z0)] (.bool b)):Za Yir Yc32 (Zxa o rs ss i) .norm (Zxa o rs ss (i64.wrap (i+1))):=(Za.go Zd 400 [.b true,.v (Zp (rs.getD (Int.toNat i) z0)),.v (Zp (ss.getD (Int.toNat i) z0)),.r (.bool b),.b false] [0,1,4,5] (ac c1 (ac n1 (ac (Z9 n1) (ac n2 (ac (Z9 n2) (ac n3 (ac (show (!b)=false from (by rw [c2];rfl)) a0))))))))
theorem Yk32_3 (o:Bool) (rs:List Rn) (ss:List Rn) (i:Int)  (c1:(decide (i<(rs.length:Int)))=false):Za Yir Yc32 (Zxa o rs ss i) (.exit 0) (Zxa o rs ss i):=(Za.go Zd 400 [.b false] [0,1,4,5] (ac c1 a0))
theorem Zph (rs ss:List Rn) (i:Int) (c1:((rs.length:Int) != (ss.length:Int))=false) (hl1:Za Yir (.loop Yc32) (Zxa false rs ss 0) (.exit 0) (Zxa false rs ss i)):Zc Yir 32 [.sl rs.length (pc rs),.sl ss.length (pc ss)] (.bool true):=Zc.of_bodyW (fn:=Yi32) (s:=(dds 4 (.val (.bool true)::(dds 22 [])))) (ex := .ret) rfl rfl (Za.asc (Za.csi (Za.seq (Za.go Zd 400 [.b false] [0,1,4,5] (ac c1 a0)) (Za.seq (Za.block hl1) (Za.go Zd 400 [] [4] a0))))) (by nofun) rfl
def Zxb (o:Bool) (r:Rn) (i:Int):Zk:=(dds 2 (.box [.bool r.1,.sl r.2.length (lm r.2)]::(.box [.bool r.1,.sl r.2.length (lm r.2)]::(.val (.bool o)::(.val (.int .i64 i)::(dds 32 []))))))
theorem Yk28_2 (o:Bool) (r:Rn) (i:Int)  (c1:(decide (i<(r.2.length:Int)))=true) (c2:((r.2.getD (Int.toNat i) 0) != (r.2.getD (Int.toNat i) 0))=false) (n1:0<=i/\i<(r.2.length:Int)):Za Yir Yc28 (Zxb o r i) .norm (Zxb o r (i64.wrap (i+1))):=(Za.go Zd 400 [.b true,.v (.int .u32 (r.2.getD (Int.toNat i) 0)),.v (.int .u32 (r.2.getD (Int.toNat i) 0)),.b false] [2,3,4,5] (ac c1 (ac n1 (ac (Zu n1) (ac n1 (ac (Zu n1) (ac c2 a0)))))))
theorem Yk28_3 (o:Bool) (r:Rn) (i:Int)  (c1:(decide (i<(r.2.length:Int)))=false):Za Yir Yc28 (Zxb o r i) (.exit 0) (Zxb o r i):=(Za.go Zd 400 [.b false] [2,3,4,5] (ac c1 a0))
theorem Zpq (r:Rn) (i:Int) (c1:(r.1==r.1)=true) (c2:((r.2.length:Int) != (r.2.length:Int))=false) (hl1:Za Yir (.loop Yc28) (Zxb false r 0) (.exit 0) (Zxb false r i)):Zc Yir 28 [Zp r,Zp r] (.bool true):=Zc.of_bodyW (fn:=Yi28) (s:=(dds 4 (.val (.bool true)::(dds 33 [])))) (ex := .ret) rfl rfl (Za.asc (Za.csi (Za.seq (Za.go Zd 400 [.b false,.b false] [2,3,4,5] (ac (show (!(r.1==r.1))=false from (by rw [c1];rfl)) (ac c2 a0))) (Za.seq (Za.block hl1) (Za.go Zd 400 [] [4] a0))))) (by nofun) rfl
theorem Zxj (fs:List Rn) (r t:Rn) (e f:Int) (k:Int) (b:Bool) (c3:(b)=true) (c4:(decide ((r.2.length:Int)>4))=true) (n1:Zc Yir 12 [] (.bool true)) (n2:Zc Yir 13 [.sl fs.length (pc fs)] (.bool b)):Zc Yir 6 [rtA fs r e t f,.int .i64 k] (.bool true):=Zc.go (fn:=Yi6) Zd rfl 400 rfl [.r (.bool true),.b false,.r (.bool b),.b false,.b true,.b true,.b true,.b true,.b true,.r (.bool true)] (ac n1 (ac (show false=false from rfl) (ac n2 (ac (show (!b)=false from (by rw [c3];rfl)) (ac c4 (ac (show true=true from rfl) (ac (show true=true from rfl) (ac (show true=true from rfl) (ac (show true=true from rfl) (ac n1 a0))))))))))
theorem Zxi (fs:List Rn) (r t:Rn) (e f:Int) (k:Int) (b:Bool) (c3:(b)=true) (c4:(decide ((r.2.length:Int)>4))=false) (c5:(decide ((t.2.length:Int)>4))=true) (n1:Zc Yir 12 [] (.bool true)) (n2:Zc Yir 13 [.sl fs.length (pc fs)] (.bool b)):Zc Yir 6 [rtA fs r e t f,.int .i64 k] (.bool true):=Zc.go (fn:=Yi6) Zd rfl 400 rfl [.r (.bool true),.b false,.r (.bool b),.b false,.b false,.b true,.b true,.b true,.b true,.r (.bool true)] (ac n1 (ac (show false=false from rfl) (ac n2 (ac (show (!b)=false from (by rw [c3];rfl)) (ac c4 (ac c5 (ac (show true=true from rfl) (ac (show true=true from rfl) (ac (show true=true from rfl) (ac n1 a0))))))))))
theorem Zxh (fs:List Rn) (r t:Rn) (e f:Int) (k:Int) (b:Bool) (c3:(b)=true) (c4:(decide ((r.2.length:Int)>4))=false) (c5:(decide ((t.2.length:Int)>4))=false) (c6:(decide (e>200))=true) (n1:Zc Yir 12 [] (.bool true)) (n2:Zc Yir 13 [.sl fs.length (pc fs)] (.bool b)):Zc Yir 6 [rtA fs r e t f,.int .i64 k] (.bool true):=Zc.go (fn:=Yi6) Zd rfl 400 rfl [.r (.bool true),.b false,.r (.bool b),.b false,.b false,.b false,.b true,.b true,.b true,.r (.bool true)] (ac n1 (ac (show false=false from rfl) (ac n2 (ac (show (!b)=false from (by rw [c3];rfl)) (ac c4 (ac c5 (ac c6 (ac (show true=true from rfl) (ac (show true=true from rfl) (ac n1 a0))))))))))
theorem Zxg (fs:List Rn) (r t:Rn) (e f:Int) (k:Int) (b:Bool) (c3:(b)=true) (c4:(decide ((r.2.length:Int)>4))=false) (c5:(decide ((t.2.length:Int)>4))=false) (c6:(decide (e>200))=false) (c7:(decide (f>200))=true) (n1:Zc Yir 12 [] (.bool true)) (n2:Zc Yir 13 [.sl fs.length (pc fs)] (.bool b)):Zc Yir 6 [rtA fs r e t f,.int .i64 k] (.bool true):=Zc.go (fn:=Yi6) Zd rfl 400 rfl [.r (.bool true),.b false,.r (.bool b),.b false,.b false,.b false,.b false,.b true,.b true,.r (.bool true)] (ac n1 (ac (show false=false from rfl) (ac n2 (ac (show (!b)=false from (by rw [c3];rfl)) (ac c4 (ac c5 (ac c6 (ac c7 (ac (show true=true from rfl) (ac n1 a0))))))))))
theorem Zxf (fs:List Rn) (r t:Rn) (e f:Int) (k:Int) (b:Bool) (c3:(b)=true) (c4:(decide ((r.2.length:Int)>4))=false) (c5:(decide ((t.2.length:Int)>4))=false) (c6:(decide (e>200))=false) (c7:(decide (f>200))=false) (c8:(decide (k>60))=true) (n1:Zc Yir 12 [] (.bool true)) (n2:Zc Yir 13 [.sl fs.length (pc fs)] (.bool b)):Zc Yir 6 [rtA fs r e t f,.int .i64 k] (.bool true):=Zc.go (fn:=Yi6) Zd rfl 400 rfl [.r (.bool true),.b false,.r (.bool b),.b false,.b false,.b false,.b false,.b false,.b true,.r (.bool true)] (ac n1 (ac (show false=false from rfl) (ac n2 (ac (show (!b)=false from (by rw [c3];rfl)) (ac c4 (ac c5 (ac c6 (ac c7 (ac c8 (ac n1 a0))))))))))
theorem Zxe (fs:List Rn) (r t:Rn) (e f:Int) (ps qs:List Rn) (k h x1 z1 x2 z2 e1 f1:Int) (r1 t1:Rn) (b v:Bool) (c1:(v==v)=true) (c3:(b)=true) (c4:(decide ((r.2.length:Int)>4))=false) (c5:(decide ((t.2.length:Int)>4))=false) (c6:(decide (e>200))=false) (c7:(decide (f>200))=false) (c8:(decide (k>60))=false) (c9:(h != h)=false) (c10:(h != 0)=true) (n1:Zc Yir 12 [] (.bool true)) (n2:Zc Yir 13 [.sl fs.length (pc fs)] (.bool b)) (n3:Zc Yir 17 [rtA fs r e t f] (.bool v)) (n4:Zc Yir 30 [rtA fs r e t f,.int .i64 k] (.tup [rtA ps (cn x1) z1 (cn x2) z2,.int .i64 h])) (n5:Zc Yir 31 [rtA fs r e t f,.int .i64 k] (.tup [rtA qs r1 e1 t1 f1,.int .i64 h])) (n6:Zc Yir 18 [rtA fs r e t f] (.bool v)):Zc Yir 6 [rtA fs r e t f,.int .i64 k] (.bool ((ps.length:Int)==0)):=Zc.go (fn:=Yi6) Zd rfl 400 rfl [.r (.bool true),.b false,.r (.bool b),.b false,.b false,.b false,.b false,.b false,.b false,.r (.bool v),.r (.tup [rtA ps (cn x1) z1 (cn x2) z2,.int .i64 h]),.r (.tup [rtA qs r1 e1 t1 f1,.int .i64 h]),.r (.bool v),.b false,.b false,.b true] (ac n1 (ac (show false=false from rfl) (ac n2 (ac (show (!b)=false from (by rw [c3];rfl)) (ac c4 (ac c5 (ac c6 (ac c7 (ac c8 (ac n3 (ac n4 (ac n5 (ac n6 (ac (show (!(v==v))=false from (by rw [c1];rfl)) (ac c9 (ac c10 a0))))))))))))))))
theorem Zxd (fs:List Rn) (r t:Rn) (e f:Int) (ps qs:List Rn) (k h x1 z1 x2 z2 e1 f1:Int) (r1 t1:Rn) (b v:Bool) (c1:(v==v)=true) (c3:(b)=true) (c4:(decide ((r.2.length:Int)>4))=false) (c5:(decide ((t.2.length:Int)>4))=false) (c6:(decide (e>200))=false) (c7:(decide (f>200))=false) (c8:(decide (k>60))=false) (c9:(h != h)=false) (c10:(h != 0)=false) (c11:(0==0)=true) (n1:Zc Yir 12 [] (.bool true)) (n2:Zc Yir 13 [.sl fs.length (pc fs)] (.bool b)) (n3:Zc Yir 17 [rtA fs r e t f] (.bool v)) (n4:Zc Yir 30 [rtA fs r e t f,.int .i64 k] (.tup [rtA ps (cn x1) z1 (cn x2) z2,.int .i64 h])) (n5:Zc Yir 31 [rtA fs r e t f,.int .i64 k] (.tup [rtA qs r1 e1 t1 f1,.int .i64 h])) (n6:Zc Yir 18 [rtA fs r e t f] (.bool v)) (n7:Zc Yir 32 [.sl ps.length (pc ps),.sl qs.length (pc qs)] (.bool true)) (n8:Zc Yir 33 [dyR (cn x1) z1,dyR r1 e1] (.int .i64 0)) (n9:Zc Yir 33 [dyR (cn x2) z2,dyR t1 f1] (.int .i64 0)):Zc Yir 6 [rtA fs r e t f,.int .i64 k] (.bool (0==0)):=Zc.go (fn:=Yi6) Zd rfl 400 rfl [.r (.bool true),.b false,.r (.bool b),.b false,.b false,.b false,.b false,.b false,.b false,.r (.bool v),.r (.tup [rtA ps (cn x1) z1 (cn x2) z2,.int .i64 h]),.r (.tup [rtA qs r1 e1 t1 f1,.int .i64 h]),.r (.bool v),.b false,.b false,.b false,.r (.bool true),.b true,.r (.int .i64 0),.b true,.r (.int .i64 0)] (ac n1 (ac (show false=false from rfl) (ac n2 (ac (show (!b)=false from (by rw [c3];rfl)) (ac c4 (ac c5 (ac c6 (ac c7 (ac c8 (ac n3 (ac n4 (ac n5 (ac n6 (ac (show (!(v==v))=false from (by rw [c1];rfl)) (ac c9 (ac c10 (ac n7 (ac (show true=true from rfl) (ac n8 (ac c11 (ac n9 a0)))))))))))))))))))))
theorem Zo4 (fs:List Rn) (r t:Rn) (e f:Int) (k:Int) (b:Bool) (c3:(b)=false) (n1:Zc Yir 12 [] (.bool true)) (n2:Zc Yir 13 [.sl fs.length (pc fs)] (.bool b)):Zc Yir 6 [rtA fs r e t f,.int .i64 k] (.bool true):=Zc.go (fn:=Yi6) Zd rfl 400 rfl [.r (.bool true),.b false,.r (.bool b),.b true,.b true,.b true,.b true,.b true,.b true,.r (.bool true)] (ac n1 (ac (show false=false from rfl) (ac n2 (ac (show (!b)=true from (by rw [c3];rfl)) (ac (show true=true from rfl) (ac (show true=true from rfl) (ac (show true=true from rfl) (ac (show true=true from rfl) (ac (show true=true from rfl) (ac n1 a0))))))))))
end Go.Proofs.YtopjpgejefileaaGreat

namespace Go.Proofs.YtopjpgejefileaaGreat
open Go.IntKind (i64 u64 u32)
open Go.Ai
set_option maxRecDepth 100000
theorem Zfm (r:Rn) (hN:r.2.length<=1048576):Zc Yir 28 [.agg [.bool r.1,.sl r.2.length (lm r.2)],.agg [.bool r.1,.sl r.2.length (lm r.2)]] (.bool true):=by
 refine Zpq r (r.2.length:Nat) (by simp) (by simp) ?_;exact Za.upTo (prog:=Yir) (c:=Yc28) (ex := .exit 0) (fun t=>Zxb false r (t:Nat)) r.2.length (by nofun) (Yk28_3 false r _ (by simp)) 0 (Nat.zero_le _) (fun t _ h=>by
  have ei:i64.wrap ((t:Int)+1)=((t+1:Nat):Int):=by rw[w64 (by omega) (by omega)];omega
  have k:=Yk28_2 false r (t:Nat) (by simp;omega) (by simp) (by omega);rwa [ei] at k)
theorem Zfl {rs:List Rn} (hg:∀ r∈rs,Q5 1048576 r) (hN:rs.length<=1048576):Zc Yir 32 [.sl rs.length (pc rs),.sl rs.length (pc rs)] (.bool true):=by
 refine Zph rs rs (rs.length:Nat) (by simp) ?_;exact Za.upTo (prog:=Yir) (c:=Yc32) (ex := .exit 0) (fun t=>Zxa false rs rs (t:Nat)) rs.length (by nofun) (Yk32_3 false rs rs _ (by simp)) 0 (Nat.zero_le _) (fun t _ h=>by
  have ei:i64.wrap ((t:Int)+1)=((t+1:Nat):Int):=by rw[w64 (by omega) (by omega)];omega
  have k:=Yk32_1 false rs rs (t:Nat) true (by simp;omega) rfl (by omega) (by omega) (by rw[Int.toNat_natCast];exact Zfm _ (Z1 hg t).2);rwa [ei] at k)
def P7 (r:Rn) (e:Int):Bool:=decide (e>=0)&&decide (e<=1024)&&decide (W1 (Zh r).natAbs<=1024)
theorem E4 {r:Rn} {e:Int} (h:P7 r e=true):∃ a:Nat,e=(a:Nat)/\a<=1024/\W1 (Zh r).natAbs<=1024:=by
 unfold P7 at h;simp only[Bool.and_eq_true,decide_eq_true_eq] at h;exact⟨e.toNat,by omega,by omega,h.2⟩
theorem Km {r:Rn} {e:Int} (hr:Q5 100 r):Zc Yir 64 [dyR r e] (.bool (P7 r e)):=by
 have hb:=Aq (neg:=r.1) hr.1 (by have:=hr.2;omega);unfold P7;by_cases c1:e>=0
 ·by_cases c2:e<=1024
  ·have k:=Zo9 r e _ (decide_eq_true c1) (decide_eq_true c2) hb;have ez:decide (((W1 (Zh r).natAbs:Nat):Int)<=1024)=decide (W1 (Zh r).natAbs<=1024):=decide_eq_decide.2 (by omega);rw[decide_eq_true c1,decide_eq_true c2];show Zc _ _ _ (.bool (decide (W1 (Zh r).natAbs<=1024)));rw[<- ez];exact k
  ·rw[decide_eq_true c1,decide_eq_false c2];exact Zo8 r e (decide_eq_true c1) (decide_eq_false c2)
 ·rw[decide_eq_false c1];exact Zo7 r e (decide_eq_false c1)
theorem Hp {r:Rn} {e:Int} (hr:Q5 100 r):Zc Yir 61 [dyR r e] (.bool (P7 r e)):=by
 have hb:=L7 (neg:=r.1) hr.1 (by have:=hr.2;omega);unfold P7;by_cases c1:e>=0
 ·by_cases c2:e<=1024
  ·have k:=Zpc r e _ (decide_eq_true c1) (decide_eq_true c2) hb;have ez:decide (((W1 (Zh r).natAbs:Nat):Int)<=1024)=decide (W1 (Zh r).natAbs<=1024):=decide_eq_decide.2 (by omega);rw[decide_eq_true c1,decide_eq_true c2];show Zc _ _ _ (.bool (decide (W1 (Zh r).natAbs<=1024)));rw[<- ez];exact k
  ·rw[decide_eq_true c1,decide_eq_false c2];exact Zpb r e (decide_eq_true c1) (decide_eq_false c2)
 ·rw[decide_eq_false c1];exact Zpa r e (decide_eq_false c1)
theorem Tn (p:List Int):J7 (Ze p)=J7 p:=by
 unfold J7;rw[As]
theorem Zg1:J7 []=false:=by decide
theorem Zdd {rs:List Rn} {K:Nat} (hg:∀ r∈rs,Q5 K r) (hK:K<=1000) (hN:rs.length<=1000):Zc Yir 52 [.sl rs.length (pc rs)] (.bool (!J7 (Zf rs))):=by
 have h1:=N0 (ps:=[rs,[]]) (fun p hp=>by
  rcases List.mem_cons.1 hp with rfl | hp
  ·exact⟨fun r h=>(hg r h).mono (by omega),by omega⟩
  ·rcases List.mem_cons.1 hp with rfl | hp
   ·exact⟨fun r h=>(by cases h),by decide⟩
   ·cases hp) (by simp)
 have e1:([rs,[]].any fun p=>J7 (Zf p))=J7 (Zf rs):=by
  have:Zf ([]:List Rn)=[]:=rfl;simp[this,Zg1]
 rw[e1] at h1;cases c:J7 (Zf rs) with
 | true =>
  rw[c] at h1;exact Zvu rs [] 2 (Zju rs [] true rfl h1)
 | false =>
  rw[c] at h1;have h2:=Zh4 (rs:=rs) (ss:=[]) hg (fun r h=>by cases h) (by omega) (by omega) (by decide);have ep:F8 (Zf rs) (Zf ([]:List Rn))=Ze (Zf rs):=by
   rw[<- Ej];apply Vd;intro i;rw[Xm];have:(Zf ([]:List Rn)).getD i 0=0:=by simp[Zf]
   omega
  rw[ep] at h2;have hl:=Qb (Zf rs);rw[Zn] at hl;have hgt:∀ r∈(Ze (Zf rs)).map cn,Q5 K r:=Kc (Xj (Q2 hg));have h3:=N0 (ps:=[(Ze (Zf rs)).map cn]) (fun p hp=>by
   rcases List.mem_cons.1 hp with rfl | hp
   ·exact⟨fun r h=>(hgt r h).mono (by omega),by rw[List.length_map];omega⟩
   ·cases hp) (by simp)
  have e3:([(Ze (Zf rs)).map cn].any fun p=>J7 (Zf p))=false:=by
   rw[List.any_cons,List.any_nil,Bool.or_false,Z3,Tn];exact c
  rw[e3] at h3;have h4:=Zit _ false rfl h3;exact Zvu rs _ _ (Zjt rs [] _ false 0 rfl h1 (U2 h2) h4)
theorem N8 {l:List (List Int)} (hl:l.length<=100) (x:Int) (e:Nat) (y:Int) (f:Nat):i64.wrap ((Jx l x e l.length).1-(Jx l y f l.length).1)=(Jx l x e l.length).1-(Jx l y f l.length).1:=by
 have b1:=G4 l x e l.length;have b2:=G4 l y f l.length;exact w64 (by omega) (by omega)
def Zw0 (p:List Int) (x:Int) (a:Nat) (y:Int) (b:Nat):Int:=(Jx (X5 p) x a (X5 p).length).1-(Jx (X5 p) y b (X5 p).length).1
def Gf (rs:List Rn) (r:Rn) (e:Int) (t:Rn) (f:Int):Bool :=
 !J7 (Zf rs)&&decide (2<=(Ze (Zf rs)).length)&&P7 r e&&P7 t f &&
  (if Gj (Zh r) e.toNat (Zh t) f.toNat=0 then decide (Xd (hv (Ze (Zf rs)) (Zh r) (2^e.toNat))=0)
  else decide (Gj (Zh r) e.toNat (Zh t) f.toNat = -1/\Zw0 (Zf rs) (Zh r) e.toNat (Zh t) f.toNat=1))
section
variable {rs:List Rn} {r t:Rn} (hg:∀ r∈rs,Q5 5 r) (hn:rs.length<=9) (hr:Q5 100 r) (ht:Q5 100 t) (e f:Int)
include hg hn hr ht
theorem Zfc:Zc Yir 18 [.agg [.sl rs.length (pc rs),.bool r.1,.sl r.2.length (lm r.2),.int .i64 e,.bool t.1,.sl t.2.length (lm t.2),.int .i64 f]] (.bool (Gf rs r e t f)):=by
 have h1:=Zdd hg (by omega) (by omega);have h2:=V3 (fun r h=>(hg r h).mono (by omega)) (show rs.length<=1048576 by omega);have h3:=Km (e:=e) hr;have h4:=Km (e:=f) ht;have htl:=Ug (Zf rs);rw[Zn] at htl;unfold Gf;cases c1:J7 (Zf rs) with
 | true =>
  rw[c1] at h1;exact Zpx rs r t e f false rfl h1
 | false =>
  rw[c1] at h1;by_cases c2:2<=(Ze (Zf rs)).length
  ·have d2:decide (((Zz (Zf rs) rs.length:Nat):Int)-1<1)=false:=by rw[decide_eq_false_iff_not];omega
   cases c3:P7 r e with
   | false =>
    rw[c3] at h3;rw[decide_eq_true c2];exact Zpy rs r t e f _ true false rfl d2 rfl h1 h2 h3
   | true =>
    rw[c3] at h3;cases c4:P7 t f with
    | false =>
     rw[c4] at h4;rw[decide_eq_true c2];exact Zpz rs r t e f _ true true false rfl d2 rfl rfl h1 h2 h3 h4
    | true =>
     rw[c4] at h4;obtain⟨a,rfl,ha,_⟩:=E4 c3;obtain⟨b,rfl,hb,_⟩:=E4 c4;rw[Int.toNat_natCast,Int.toNat_natCast,decide_eq_true c2];have h5:=Ao (hr.mono (show 100<=200 by omega)) (ht.mono (show 100<=200 by omega)) (a:=a) (b:=b) (by omega) (by omega);by_cases c5:Gj (Zh r) a (Zh t) b=0
     ·rw[c5] at h5;rw[if_pos c5];have h6:=W3 (fun r h=>(hg r h).mono (by omega)) (show rs.length<=1048576 by omega);have hk:∀ r∈(Ze (Zf rs)).map cn,Q5 5 r:=Kc (Xj (Q2 hg));have hl:=Qb (Zf rs);rw[Zn] at hl;have h7:=G1 (rs:=(Ze (Zf rs)).map cn) hk hr a (by
       rw[List.length_map];have:((Ze (Zf rs)).length+1)*(100+(a / 32+1)+1)<=10*230:=Nat.mul_le_mul (by omega) (by omega);omega) (by omega)
      rw[Z3] at h7;have k:=Zp2 rs r t (a:Nat) (b:Nat) _ _ 0 _ true true true rfl d2 rfl rfl rfl h1 h2 h3 h4 h5 (U2 h6) h7;refine k
     ·rw[if_neg c5];have hbd:=Zhw (Zh r*2^b) (Zh t*2^a);by_cases c6:Gj (Zh r) a (Zh t) b=1
      ·rw[c6] at h5;rw[decide_eq_false (show ¬ (Gj (Zh r) a (Zh t) b = -1/\_) by rw[c6];exact fun g=>absurd g.1 (by decide))];exact Zp1 rs r t (a:Nat) (b:Nat) _ 1 true true true rfl d2 rfl rfl rfl rfl h1 h2 h3 h4 h5
      ·have c7:Gj (Zh r) a (Zh t) b = -1:=by
        have h0:Gj (Zh r) a (Zh t) b=U0 (Zh r*2^b) (Zh t*2^a):=rfl;omega
       rw[c7] at h5;have hch:=Zdz hg hn;have hnice:=E3 hg hn;have hlen:=Me hg hn;have x1:=E2 hnice hr a (by omega) (by omega);have x2:=E2 hnice ht b (by omega) (by omega);have k:=Zp0 rs r t (a:Nat) (b:Nat) _ _ (-1) _ _ true true true rfl d2 rfl rfl rfl rfl h1 h2 h3 h4 h5 hch x1 x2;rw[N8 (by omega)] at k;have ee:decide (Gj (Zh r) a (Zh t) b = -1/\Zw0 (Zf rs) (Zh r) a (Zh t) b=1)=(Zw0 (Zf rs) (Zh r) a (Zh t) b==1):=by
        rw[c7];cases hq:(Zw0 (Zf rs) (Zh r) a (Zh t) b==1) with
        | true=>rw[decide_eq_true_eq];exact⟨rfl,by simpa using hq⟩
        | false=>rw[decide_eq_false_iff_not];exact fun g=>by rw[beq_eq_false_iff_ne] at hq;exact hq g.2
       rw[ee];exact k
  ·have d2:decide (((Zz (Zf rs) rs.length:Nat):Int)-1<1)=true:=by rw[decide_eq_true_eq];omega
   rw[decide_eq_false c2];exact Zp3 rs r t e f _ true rfl d2 h1 h2
end
def Fine (p:List Int):Prop:=Kb 500000 p/\p.length<=9
theorem Za8 {p:List Int} (hl:p.length<=9) {a:Nat} (ha:a<=4096):500000+2+(p.length+1)*(100+(a / 32+1)+1)<=1048576:=by
 have:(p.length+1)*(100+(a / 32+1)+1)<=10*230:=Nat.mul_le_mul (by omega) (by omega);omega
def sgD (p:List Int) (x:Int) (a:Nat):Int:=Xd (hv p x (2^a))
theorem A1 {p:List Int} (hp:Fine p) {r:Rn} (hr:Q5 100 r) {a:Nat} (ha:a<=4096):Zc Yir 65 [.sl (p.map cn).length (pc (p.map cn)),dyR r (a:Nat)] (.int .i64 (sgD p (Zh r) a)):=by
 have h:=G1 (rs:=p.map cn) (Z2 hp.1) hr a (by rw[List.length_map];exact Za8 hp.2 ha) (by omega);rw[Z3] at h;exact h
theorem Db {rs:List Rn} (hg:∀ r∈rs,Q5 500000 r) (hl:rs.length<=9) {r:Rn} (hr:Q5 100 r) {a:Nat} (ha:a<=4096) :
  Zc Yir 80 [.sl rs.length (pc rs),.agg [.bool r.1,.sl r.2.length (lm r.2)],.int .i64 (a:Nat)] (Zi (hv (Ze (Zf rs)) (Zh r) (2^a))) /\
  Zc Yir 79 [Zi (hv (Ze (Zf rs)) (Zh r) (2^a))] (.int .i64 (sgD (Ze (Zf rs)) (Zh r) a)):=by
 have hz:=Za8 (p:=Zf rs) (by rw[Zn];exact hl) ha;rw[Zn] at hz;have h:=Ny hg hr a hz (by omega);have hf:=Tu (K:=500000) hr.fits a (ts:=Ze (Zf rs)) (Xj (Q2 hg));have ht:=Qb (Zf rs);rw[Zn] at ht;have hlen:(Ze (Zf rs)).length*(100+(a / 32+1)+1)<=9*230:=Nat.mul_le_mul (by omega) (by omega);exact⟨h,Zbh (by have:=hf.len;omega)⟩
section
variable {rs:List Rn} {r t:Rn} (hg:∀ r∈rs,Q5 5 r) (hn:rs.length<=9) (hr:Q5 100 r) (ht:Q5 100 t) (e f:Int)
include hg hn hr ht
theorem Su:Zc Yir 17 [.agg [.sl rs.length (pc rs),.bool r.1,.sl r.2.length (lm r.2),.int .i64 e,.bool t.1,.sl t.2.length (lm t.2),.int .i64 f]] (.bool (Gf rs r e t f)):=by
 have h1:=S8 (fun r h=>(hg r h).mono (by omega)) (show rs.length<=1048576 by omega);have h2:=L8 (fun r h=>(hg r h).mono (by omega)) (show rs.length<=1048576 by omega);have h3:=Hp (e:=e) hr;have h4:=Hp (e:=f) ht;unfold Gf;cases c1:J7 (Zf rs) with
 | true =>
  rw[c1] at h1;exact Zqa rs r t e f true rfl h1
 | false =>
  rw[c1] at h1;by_cases c2:2<=(Ze (Zf rs)).length
  ·have d2:decide (((Ze (Zf rs)).length:Nat)-1<(1:Int))=false:=by rw[decide_eq_false_iff_not];omega
   cases c3:P7 r e with
   | false =>
    rw[c3] at h3;rw[decide_eq_true c2];exact Zp4 rs r t e f _ false false rfl d2 rfl h1 h2 h3
   | true =>
    rw[c3] at h3;cases c4:P7 t f with
    | false =>
     rw[c4] at h4;rw[decide_eq_true c2];exact Zp5 rs r t e f _ false true false rfl d2 rfl rfl h1 h2 h3 h4
    | true =>
     rw[c4] at h4;obtain⟨a,rfl,ha,_⟩:=E4 c3;obtain⟨b,rfl,hb,_⟩:=E4 c4;rw[Int.toNat_natCast,Int.toNat_natCast,decide_eq_true c2];have h5:=Xt (hr.mono (show 100<=200 by omega)) (ht.mono (show 100<=200 by omega)) (a:=a) (b:=b) (by omega) (by omega);by_cases c5:Gj (Zh r) a (Zh t) b=0
     ·rw[c5] at h5;rw[if_pos c5];obtain⟨x1,x2⟩:=Db (fun r h=>(hg r h).mono (show 5<=500000 by omega)) hn hr (a:=a) (by omega);have h6:=Yrun62 rs r (a:Nat) _ _ x1 x2;exact Zp8 rs r t (a:Nat) (b:Nat) _ 0 false true true _ rfl d2 rfl rfl rfl h1 h2 h3 h4 h5 h6
     ·rw[if_neg c5];by_cases c7:Gj (Zh r) a (Zh t) b = -1
      ·rw[c7] at h5;have hch:=Zda hg hn;have hnice:=E3 hg hn;have hlen:=Me hg hn;have x1:=Za6 hnice hr a (by omega) (by omega);have x2:=Za6 hnice ht b (by omega) (by omega);have hro:=Yrun63 rs _ r t (a:Nat) (b:Nat) _ _ hch x1 x2;rw[N8 (by omega)] at hro;have k:=Zp7 rs r t (a:Nat) (b:Nat) _ (-1) _ false true true rfl d2 rfl rfl rfl rfl h1 h2 h3 h4 h5 hro;have ee:decide (Gj (Zh r) a (Zh t) b = -1/\Zw0 (Zf rs) (Zh r) a (Zh t) b=1)=(Zw0 (Zf rs) (Zh r) a (Zh t) b==1):=by
        rw[c7];cases hq:(Zw0 (Zf rs) (Zh r) a (Zh t) b==1) with
        | true=>rw[decide_eq_true_eq];exact⟨rfl,by simpa using hq⟩
        | false=>rw[decide_eq_false_iff_not];exact fun g=>by rw[beq_eq_false_iff_ne] at hq;exact hq g.2
       rw[ee];exact k
      ·rw[decide_eq_false (fun g=>c7 g.1)];exact Zp6 rs r t (a:Nat) (b:Nat) _ _ false true true rfl d2 rfl rfl (by rw[beq_eq_false_iff_ne];exact c5) (by rw[beq_eq_false_iff_ne];exact c7) h1 h2 h3 h4 h5
  ·have d2:decide (((Ze (Zf rs)).length:Nat)-1<(1:Int))=true:=by rw[decide_eq_true_eq];omega
   rw[decide_eq_false c2];exact Zp9 rs r t e f _ false rfl d2 h1 h2
end
end Go.Proofs.YtopjpgejefileaaGreat

namespace Go.Proofs.YtopjpgejefileaaGreat
open Go.IntKind (i64 u64 u32)
open Go.Ai
set_option maxRecDepth 100000
theorem Ld (c x q:Int):∀ p:List Int,hv p (c*x) (c*q)=c^(p.length-1)*hv p x q
 | []=>by simp[hv]
 | [a]=>by simp[hv]
 | a::b::p=>by
  have ih:=Ld c x q (b::p);have e:∀ y d,hv (a::b::p) y d=a*d^(p.length+1)+y*hv (b::p) y d:=fun _ _=>rfl;have e1:(b::p).length-1=p.length:=rfl;have e2:(a::b::p).length-1=p.length+1:=rfl;rw[e1] at ih;rw[e,e,ih,e2,Int.mul_pow,Int.pow_succ c p.length];generalize hv (b::p) x q=H;generalize c^p.length=C;generalize q^(p.length+1)=Q;grind
theorem Nu {c:Int} (hc:0<c) (v:Int):Xd (c*v)=Xd v:=by
 unfold Xd;rcases Int.lt_trichotomy v 0 with h | h | h
 ·have:=Int.mul_neg_of_pos_of_neg hc h;rw[if_pos this,if_pos h]
 ·subst h;rw[Int.mul_zero]
 ·have:=Int.mul_pos hc h;rw[if_neg (by omega),if_pos this,if_neg (by omega),if_pos h]
theorem Zm2 {p:List Int} {x y:Int} {a b:Nat} (h:x*2^b=y*2^a):sgD p x a=sgD p y b:=by
 unfold sgD;have pa:(0:Int)<2^a:=Int.pow_pos (by decide);have pb:(0:Int)<2^b:=Int.pow_pos (by decide);have qa:(0:Int)<(2^a)^(p.length-1):=Int.pow_pos pa;have qb:(0:Int)<(2^b)^(p.length-1):=Int.pow_pos pb;rw[<- Nu qb (hv p x (2^a)),<- Ld,<- Nu qa (hv p y (2^b)),<- Ld];rw[Int.mul_comm (2^b) x,h,Int.mul_comm (2^b) (2^a),Int.mul_comm (2^a) y]
def Sr (p:List Int) (lo:Int) (a:Nat) (hi:Int) (b:Nat) (x:Int) (c:Nat):Int :=
 if Gj x c lo a<=0 then 1 else if Gj x c hi b>0 then -1 else if sgD p x c=0 then 0 else if sgD p x c=sgD p hi b then -1 else 1
section
variable {p:List Int} (hp:Fine p) {r t q:Rn} (hr:Q5 100 r) (ht:Q5 100 t) (hq:Q5 100 q) {a b c:Nat} (ha:a<=4096) (hb:b<=4096) (hc:c<=4096)
include hr ht ha hb
theorem Ps:Zc Yir 125 [.agg [.sl (p.map cn).length (pc (p.map cn)),.bool r.1,.sl r.2.length (lm r.2),.int .i64 (a:Nat),.bool t.1,.sl t.2.length (lm t.2),.int .i64 (b:Nat)]] (.bool (Gj (Zh r) a (Zh t) b==0)) :=
 Zx8 _ r t _ _ _ (Ao (hr.mono (by omega)) (ht.mono (by omega)) ha hb)
include hp hq hc
theorem Zm1 (hne:Gj (Zh r) a (Zh t) b ≠ 0):Zc Yir 76 [.agg [.sl (p.map cn).length (pc (p.map cn)),.bool r.1,.sl r.2.length (lm r.2),.int .i64 (a:Nat),.bool t.1,.sl t.2.length (lm t.2),.int .i64 (b:Nat)],dyR q (c:Nat)]
  (.int .i64 (Sr p (Zh r) a (Zh t) b (Zh q) c)):=by
 have h1:=Ps (p:=p) hr ht ha hb;rw[beq_eq_false_iff_ne.2 hne] at h1;have h2:=Ao (hq.mono (show 100<=200 by omega)) (hr.mono (show 100<=200 by omega)) hc ha;have h3:=Ao (hq.mono (show 100<=200 by omega)) (ht.mono (show 100<=200 by omega)) hc hb;have s1:=A1 hp ht hb;have s2:=A1 hp hq hc;unfold Sr;by_cases c1:Gj (Zh q) c (Zh r) a<=0
 ·rw[if_pos c1];exact Zow _ r t _ _ q _ _ false rfl (decide_eq_true c1) h1 h2
 rw[if_neg c1];by_cases c2:Gj (Zh q) c (Zh t) b>0
 ·rw[if_pos c2];exact Zov _ r t _ _ q _ _ _ false rfl (decide_eq_false c1) (decide_eq_true c2) h1 h2 h3
 rw[if_neg c2];by_cases c3:Gj (Zh q) c (Zh t) b=0
 ·have hs:sgD p (Zh q) c=sgD p (Zh t) b:=by
   apply Zm2;unfold Gj U0 at c3;split at c3
   ·exact absurd c3 (by decide)
   ·split at c3
    ·exact absurd c3 (by decide)
    ·omega
  rw[hs];by_cases c4:sgD p (Zh t) b=0
  ·rw[if_pos c4];exact Zou _ r t _ _ q _ _ _ _ false rfl (decide_eq_false c1) (decide_eq_false c2) (by rw[beq_iff_eq];exact c3) (by rw[beq_iff_eq];exact c4) h1 h2 h3 s1
  ·rw[if_neg c4,if_pos rfl];exact Zot _ r t _ _ q _ _ _ _ false rfl (decide_eq_false c1) (decide_eq_false c2) (by rw[beq_iff_eq];exact c3) (by rw[beq_eq_false_iff_ne];exact c4) h1 h2 h3 s1
 ·have d3:(Gj (Zh q) c (Zh t) b==0)=false:=beq_eq_false_iff_ne.2 c3;by_cases c4:sgD p (Zh q) c=0
  ·rw[if_pos c4];exact Zos _ r t _ _ q _ _ _ _ _ false rfl (decide_eq_false c1) (decide_eq_false c2) d3 (by rw[beq_iff_eq];exact c4) h1 h2 h3 s1 s2
  rw[if_neg c4];by_cases c5:sgD p (Zh q) c=sgD p (Zh t) b
  ·rw[if_pos c5];exact Zor _ r t _ _ q _ _ _ _ _ false rfl (decide_eq_false c1) (decide_eq_false c2) d3 (by rw[beq_eq_false_iff_ne];exact c4) (by rw[beq_iff_eq];exact c5) h1 h2 h3 s1 s2
  ·rw[if_neg c5];exact Zoq _ r t _ _ q _ _ _ _ _ false rfl (decide_eq_false c1) (decide_eq_false c2) d3 (by rw[beq_eq_false_iff_ne];exact c4) (by rw[beq_eq_false_iff_ne];exact c5) h1 h2 h3 s1 s2
theorem Zmn (hL:Vn p) (hne:Gj (Zh r) a (Zh t) b ≠ 0):Zc Yir 27 [.agg [.sl (p.map cn).length (pc (p.map cn)),.bool r.1,.sl r.2.length (lm r.2),.int .i64 (a:Nat),.bool t.1,.sl t.2.length (lm t.2),.int .i64 (b:Nat)],dyR q (c:Nat)]
  (.int .i64 (Sr p (Zh r) a (Zh t) b (Zh q) c)):=by
 have h1:=Xt (hr.mono (show 100<=200 by omega)) (ht.mono (show 100<=200 by omega)) ha hb;have d1:(Gj (Zh r) a (Zh t) b==0)=false:=beq_eq_false_iff_ne.2 hne;have h2:=Xt (hq.mono (show 100<=200 by omega)) (hr.mono (show 100<=200 by omega)) hc ha;have h3:=Xt (hq.mono (show 100<=200 by omega)) (ht.mono (show 100<=200 by omega)) hc hb;obtain⟨s1,s2⟩:=Db (rs:=p.map cn) (Z2 hp.1) (by rw[List.length_map];exact hp.2) ht hb;obtain⟨s3,s4⟩:=Db (rs:=p.map cn) (Z2 hp.1) (by rw[List.length_map];exact hp.2) hq hc;rw[Z3,hL] at s1 s2 s3 s4;unfold Sr;by_cases c1:Gj (Zh q) c (Zh r) a<=0
 ·rw[if_pos c1];exact Zpw _ r t _ _ q _ _ _ _ d1 (decide_eq_true c1) h2 h3 h1
 rw[if_neg c1];by_cases c2:Gj (Zh q) c (Zh t) b>0
 ·rw[if_pos c2];exact Zpv _ r t _ _ q _ _ _ _ d1 (decide_eq_false c1) (decide_eq_true c2) h2 h3 h1
 rw[if_neg c2];by_cases c4:sgD p (Zh q) c=0
 ·rw[if_pos c4];exact Zpu _ r t _ _ q _ _ _ _ _ _ _ _ d1 (decide_eq_false c1) (decide_eq_false c2) (by rw[beq_iff_eq];exact c4) h2 h3 h1 s3 s4 s1 s2
 rw[if_neg c4];have d4:(sgD p (Zh q) c==0)=false:=beq_eq_false_iff_ne.2 c4;by_cases c6:sgD p (Zh t) b=0
 ·rw[if_neg (by omega)];exact Zpt _ r t _ _ q _ _ _ _ _ _ _ _ d1 (decide_eq_false c1) (decide_eq_false c2) d4 (by rw[beq_iff_eq];exact c6) h2 h3 h1 s3 s4 s1 s2
 by_cases c5:sgD p (Zh q) c=sgD p (Zh t) b
 ·rw[if_pos c5];exact Zps _ r t _ _ q _ _ _ _ _ _ _ _ d1 (decide_eq_false c1) (decide_eq_false c2) d4 (by rw[beq_eq_false_iff_ne];exact c6) (by rw[beq_iff_eq];exact c5) h2 h3 h1 s3 s4 s1 s2
 ·rw[if_neg c5];exact Zpr _ r t _ _ q _ _ _ _ _ _ _ _ d1 (decide_eq_false c1) (decide_eq_false c2) d4 (by rw[beq_eq_false_iff_ne];exact c6) (by rw[beq_eq_false_iff_ne];exact c5) h2 h3 h1 s3 s4 s1 s2
end
structure Iv where
 r:Rn
 a:Nat
 t:Rn
 b:Nat
def Iv.mn (x:Iv):Int:=midN (Zh x.r) x.a (Zh x.t) x.b
def Iv.me (x:Iv):Nat:=Zwn (Zh x.r) x.a (Zh x.t) x.b
def stp (p:List Int) (x:Iv):Iv :=
 if Gj (Zh x.r) x.a (Zh x.t) x.b=0 then x
 else if Sr p (Zh x.r) x.a (Zh x.t) x.b x.mn x.me<=0 then ⟨x.r,x.a,cn x.mn,x.me⟩ else ⟨cn x.mn,x.me,x.t,x.b⟩
def Iv.av (p:List Int) (x:Iv):AV := .agg [.sl (p.map cn).length (pc (p.map cn)),.bool x.r.1,.sl x.r.2.length (lm x.r.2),.int .i64 (x.a:Nat),.bool x.t.1,.sl x.t.2.length (lm x.t.2),.int .i64 (x.b:Nat)]
structure IvOk (C m:Nat) (x:Iv):Prop where
 gr:Q5 100 x.r
 gt:Q5 100 x.t
 a:x.a<=m
 b:x.b<=m
 vr:(Zh x.r).natAbs<=2^C*2^x.a
 vt:(Zh x.t).natAbs<=2^C*2^x.b
theorem Zgo {x a y b}:Zwn x a y b<=max a b+1:=by unfold Zwn;omega
theorem Zgp {x:Int} {a:Nat} {y:Int} {b C:Nat} (hx:x.natAbs<=2^C*2^a) (hy:y.natAbs<=2^C*2^b):(midN x a y b).natAbs<=2^C*2^Zwn x a y b:=by
 have hz:=S6 (max a b+1) (Zgq x a y b);have hd:=Ae (max a b+1) (Zgq x a y b);have h1:(Zgq x a y b).natAbs<=2^C*2^(max a b+1):=by
  unfold Zgq;have e1:(x*2^(max a b-a)).natAbs<=2^C*2^max a b:=by
   rw[Int.natAbs_mul,Int.natAbs_pow];have:2^C*2^max a b=2^C*2^a*2^(max a b-a):=by rw[Nat.mul_assoc,<- Nat.pow_add 2 a];congr 2;omega
   rw[this];exact Nat.mul_le_mul hx (Nat.le_refl _)
  have e2:(y*2^(max a b-b)).natAbs<=2^C*2^max a b:=by
   rw[Int.natAbs_mul,Int.natAbs_pow];have:2^C*2^max a b=2^C*2^b*2^(max a b-b):=by rw[Nat.mul_assoc,<- Nat.pow_add 2 b];congr 2;omega
   rw[this];exact Nat.mul_le_mul hy (Nat.le_refl _)
  have e3:2^C*2^(max a b+1)=2^C*2^max a b+2^C*2^max a b:=by rw[Nat.pow_succ,<- Nat.mul_assoc];omega
  omega
 unfold midN Zwn;generalize Zgq x a y b=S at *
 generalize Wq S (max a b+1)=z at *
 obtain⟨N,rfl⟩:=hd;have pz:(0:Int)<2^z:=Int.pow_pos (by decide);rw[Int.mul_ediv_cancel_left _ (by omega)];rw[Int.natAbs_mul,Int.natAbs_pow] at h1;have e4:2^C*2^(max a b+1)=2^z*(2^C*2^(max a b+1-z)):=by
  rw[Nat.mul_left_comm,<- Nat.pow_add 2 z];congr 2;omega
 rw[e4] at h1;exact Nat.le_of_mul_le_mul_left h1 (Nat.pow_pos (by decide))
theorem Du {n:Int} {k:Nat} (h:n.natAbs<=2^k) {K:Nat} (hk:k<32*K):Jc K n:=by
 unfold Jc;have:(4294967296:Nat)^K=2^(32*K):=by rw[Nat.pow_mul]
 rw[this];exact Nat.lt_of_le_of_lt h (Nat.pow_lt_pow_right (by decide) hk)
theorem stp_ok {p:List Int} {C m:Nat} {x:Iv} (h:IvOk C m x) (hC:C+m+1<3000):IvOk C (m+1) (stp p x):=by
 obtain⟨gr,gt,ha,hb,vr,vt⟩:=h;have e1:=Zgp vr vt;have e2:x.me<=max x.a x.b+1:=Zgo;have e3:x.mn.natAbs<=2^C*2^x.me:=e1;have hf:Q5 100 (cn x.mn):=Qi (Du (k:=C+x.me) (by rw[Nat.pow_add];exact e3) (by omega));unfold stp;split
 ·exact⟨gr,gt,by omega,by omega,vr,vt⟩
 ·split
  ·exact⟨gr,hf,by show x.a<=_;omega,by show x.me<=_;omega,vr,by show (Zh (cn x.mn)).natAbs<=_;rw[Z0];exact e3⟩
  ·exact⟨hf,gt,by show x.me<=_;omega,by show x.b<=_;omega,by show (Zh (cn x.mn)).natAbs<=_;rw[Z0];exact e3,vt⟩
section
variable {p:List Int} (hp:Fine p) {C m:Nat} {x:Iv} (h:IvOk C m x) (hC:C+m+1<3000)
include hp h hC
theorem Zmv:Zc Yir 82 [x.av p] ((stp p x).av p):=by
 obtain⟨gr,gt,ha,hb,vr,vt⟩:=h;have h1:=Ps (p:=p) gr gt (a:=x.a) (b:=x.b) (by omega) (by omega);unfold stp;by_cases c1:Gj (Zh x.r) x.a (Zh x.t) x.b=0
 ·rw[if_pos c1];rw[beq_iff_eq.2 c1] at h1;exact Zop _ x.r x.t _ _ true rfl h1
 ·rw[if_neg c1];rw[beq_eq_false_iff_ne.2 c1] at h1;have e3:x.mn.natAbs<=2^C*2^x.me:=Zgp vr vt;have e2:x.me<=max x.a x.b+1:=Zgo;have hf:Q5 100 (cn x.mn):=Qi (Du (k:=C+x.me) (by rw[Nat.pow_add];exact e3) (by omega));have h2:=Zaa (gr.mono (show 100<=200 by omega)) (gt.mono (show 100<=200 by omega)) (a:=x.a) (b:=x.b) (by omega) (by omega);have h3:=Zm1 hp gr gt hf (a:=x.a) (b:=x.b) (c:=x.me) (by omega) (by omega) (by omega) c1;rw[Z0] at h3;by_cases c2:Sr p (Zh x.r) x.a (Zh x.t) x.b x.mn x.me<=0
  ·rw[if_pos c2];exact Zoo _ x.r x.t _ _ _ _ _ false rfl (decide_eq_true c2) h1 h2 h3
  ·rw[if_neg c2];exact Zon _ x.r x.t _ _ _ _ _ false rfl (decide_eq_false c2) h1 h2 h3
theorem Zg7 (hL:Vn p):Zc Yir 72 [x.av p] ((stp p x).av p):=by
 obtain⟨gr,gt,ha,hb,vr,vt⟩:=h;have h1:=Xt (gr.mono (show 100<=200 by omega)) (gt.mono (show 100<=200 by omega)) (a:=x.a) (b:=x.b) (by omega) (by omega);unfold stp;by_cases c1:Gj (Zh x.r) x.a (Zh x.t) x.b=0
 ·rw[if_pos c1];exact Zo1 _ x.r x.t _ _ _ (by rw[beq_iff_eq];exact c1) h1
 ·rw[if_neg c1];have d1:(Gj (Zh x.r) x.a (Zh x.t) x.b==0)=false:=beq_eq_false_iff_ne.2 c1;have e3:x.mn.natAbs<=2^C*2^x.me:=Zgp vr vt;have e2:x.me<=max x.a x.b+1:=Zgo;have hf:Q5 100 (cn x.mn):=Qi (Du (k:=C+x.me) (by rw[Nat.pow_add];exact e3) (by omega));have h2:=Zfx (gr.mono (show 100<=200 by omega)) (gt.mono (show 100<=200 by omega)) (a:=x.a) (b:=x.b) (by omega) (by omega);have h3:=Zmn hp gr gt hf (a:=x.a) (b:=x.b) (c:=x.me) (by omega) (by omega) (by omega) hL c1;rw[Z0] at h3;by_cases c2:Sr p (Zh x.r) x.a (Zh x.t) x.b x.mn x.me<=0
  ·rw[if_pos c2];exact Zo0 _ x.r x.t _ _ _ _ _ _ d1 (decide_eq_true c2) h1 h2 h3
  ·rw[if_neg c2];exact Zoz _ x.r x.t _ _ _ _ _ _ d1 (decide_eq_false c2) h1 h2 h3
end
end Go.Proofs.YtopjpgejefileaaGreat

namespace Go.Proofs.YtopjpgejefileaaGreat
open Go.IntKind (i64 u64 u32)
open Go.Ai
set_option maxRecDepth 100000
def Zmg (rs:List Rn):Bool:=decide (rs.length<=9)&&rs.all fun r=>decide (W1 (Zh r).natAbs<=100)&&decide (r.2.length<=5)
theorem Zws {rs:List Rn} (hg:∀ r∈rs,Q5 35184372088832 r):Zc Yir 13 [.sl rs.length (pc rs)] (.bool (Zmg rs)):=by
 by_cases c9:rs.length<=9
 ·have d9:decide ((rs.length:Int)>9)=false:=by rw[decide_eq_false_iff_not];omega
  have hb:∀ t:Nat,Zc Yir 51 [Zp (rs.getD t z0)] (.int .i64 ((W1 (Zh (rs.getD t z0)).natAbs:Nat):Int)):=fun t=>L7 (Z1 hg t).1 (Z1 hg t).2;have step:∀ t:Nat,t<rs.length->(!(decide (W1 (Zh (rs.getD t z0)).natAbs<=100)&&decide ((rs.getD t z0).2.length<=5)))=false->Za Yir Zly (Lw false rs (t:Nat)) .norm (Lw false rs ((t+1:Nat):Int)):=by
   intro t ht hk;simp only[Bool.not_eq_false',Bool.and_eq_true,decide_eq_true_eq] at hk;have ei:i64.wrap ((t:Int)+1)=((t+1:Nat):Int):=by rw[w64 (by omega) (by omega)];omega
   have k:=Yk13_3 false rs (t:Nat) ((W1 (Zh (rs.getD t z0)).natAbs:Nat):Int) (by simp;omega) (by rw[decide_eq_false_iff_not];omega) (by rw[Int.toNat_natCast,decide_eq_false_iff_not];omega) (by omega) (by rw[Int.toNat_natCast];exact hb t);rwa [ei] at k
  rcases H0 (fun j => !(decide (W1 (Zh (rs.getD j z0)).natAbs<=100)&&decide ((rs.getD j z0).2.length<=5))) rs.length _ 0 (by rw[Nat.zero_add]) with h | ⟨j,_,h2,h3,h4⟩
  ·have e:Zmg rs=true:=by
    unfold Zmg;rw[decide_eq_true c9,Bool.true_and,List.all_eq_true];intro r hr;obtain⟨i,hi,rfl⟩:=List.mem_iff_getElem.1 hr;have:=h i (by omega) hi;rw[List.getD_eq_getElem?_getD,List.getElem?_eq_getElem hi] at this;simpa using this
   rw[e];exact Zef rs _ d9 (Za.upTo (prog:=Yir) (c:=Zly) (ex := .exit 0) (fun t=>Lw false rs (t:Nat)) rs.length (by nofun) (Yk13_4 false rs _ (by simp)) 0 (Nat.zero_le _) (fun t _ h6=>step t h6 (h t (by omega) h6)))
  ·have e:Zmg rs=false:=by
    unfold Zmg;rw[decide_eq_true c9,Bool.true_and,List.all_eq_false];refine⟨rs.getD j z0,?_,?_⟩
    ·rw[List.getD_eq_getElem?_getD,List.getElem?_eq_getElem h2];exact List.getElem_mem h2
    ·intro g;rw[g] at h3;cases h3
   rw[e];have out:Za Yir Zly (Lw false rs (j:Nat)) .ret (Lw false rs (j:Nat)):=by
    by_cases c:W1 (Zh (rs.getD j z0)).natAbs<=100
    ·rw[decide_eq_true c,Bool.true_and] at h3;simp only[Bool.not_eq_true',decide_eq_false_iff_not] at h3;exact Yk13_2 false rs (j:Nat) ((W1 (Zh (rs.getD j z0)).natAbs:Nat):Int) (by simp;omega) (by rw[decide_eq_false_iff_not];omega) (by rw[Int.toNat_natCast,decide_eq_true_eq];omega) (by omega) (by rw[Int.toNat_natCast];exact hb j)
    ·exact Yk13_1 false rs (j:Nat) ((W1 (Zh (rs.getD j z0)).natAbs:Nat):Int) (by simp;omega) (by rw[decide_eq_true_eq];omega) (by omega) (by rw[Int.toNat_natCast];exact hb j)
   exact Zeg rs _ d9 (Za.upTo (prog:=Yir) (c:=Zly) (ex := .ret) (fun t=>Lw false rs (t:Nat)) j (by nofun) out 0 (Nat.zero_le _) (fun t _ h6=>step t (by omega) (h4 t (by omega) h6)))
 ·have e:Zmg rs=false:=by unfold Zmg;rw[decide_eq_false c9,Bool.false_and]
  rw[e];exact Zeh rs (by rw[decide_eq_true_eq];omega)
theorem Zwr {rs:List Rn} (hg:∀ r∈rs,Q5 35184372088832 r) (h:Zmg rs=true):(∀ r∈rs,Q5 5 r)/\rs.length<=9:=by
 unfold Zmg at h;simp only[Bool.and_eq_true,decide_eq_true_eq,List.all_eq_true] at h;exact⟨fun r hr=>⟨(hg r hr).1,(h.2 r hr).2⟩,h.1⟩
def K1 (p:List Int) (x:Iv):Nat->Iv
 | 0=>x
 | n+1=>stp p (K1 p x n)
theorem Ms {p:List Int} {C m:Nat} {x:Iv} (h:IvOk C m x):∀ n,C+m+n<3000->IvOk C (m+n) (K1 p x n)
 | 0,_=>h
 | n+1,hc=>stp_ok (m:=m+n) (Ms h n (by omega)) (by omega)
section
variable {p:List Int} (hp:Fine p) {x:Iv} (h:IvOk 128 200 x) {fs:List Rn} {r0:Rn} {e0:Int} {t0:Rn} {f0:Int}
include hp h
theorem loopS {m:Nat} (hm:m<=60):Za Yir (.loop Zv3) (Zd1 fs r0 e0 t0 f0 (p.map cn) x.r x.a x.t x.b (m:Nat) 0) (.exit 0) (Zd1 fs r0 e0 t0 f0 (p.map cn) (K1 p x m).r (K1 p x m).a (K1 p x m).t (K1 p x m).b (m:Nat) (m:Nat)) :=
 Za.up (prog:=Yir) (c:=Zv3) (ex := .exit 0) (fun i=>Zd1 fs r0 e0 t0 f0 (p.map cn) (K1 p x i).r (K1 p x i).a (K1 p x i).t (K1 p x i).b (m:Nat) (i:Nat)) m (by nofun) (fun i hi=>by
  have ei:i64.wrap ((i:Int)+1)=((i+1:Nat):Int):=by rw[w64 (by omega) (by omega)];omega
  have k:=Yk30_1 fs r0 e0 t0 f0 (p.map cn) (K1 p x i).r (K1 p x i).a (K1 p x i).t (K1 p x i).b (m:Nat) (i:Nat) (p.map cn) (K1 p x (i+1)).r (K1 p x (i+1)).t (K1 p x (i+1)).a (K1 p x (i+1)).b (by rw[decide_eq_true_eq];omega) (Zmv hp (Ms h i (by omega)) (by omega));rwa [ei] at k) (Yk30_2 _ _ _ _ _ _ _ _ _ _ _ _ (by rw[decide_eq_false_iff_not];omega)) 0 (Nat.zero_le _)
theorem loopH (hL:Vn p) {k:Int} (hk:k<=60):Za Yir (.loop Zv2) (Zd0 fs r0 e0 t0 f0 (p.map cn) x.r x.a x.t x.b k 0) (.exit 0) (Zd0 fs r0 e0 t0 f0 (p.map cn) (K1 p x k.toNat).r (K1 p x k.toNat).a (K1 p x k.toNat).t (K1 p x k.toNat).b k (k.toNat:Nat)) :=
 Za.up (prog:=Yir) (c:=Zv2) (ex := .exit 0) (fun i=>Zd0 fs r0 e0 t0 f0 (p.map cn) (K1 p x i).r (K1 p x i).a (K1 p x i).t (K1 p x i).b k (i:Nat)) k.toNat (by nofun) (fun i hi=>by
  have ei:i64.wrap ((i:Int)+1)=((i+1:Nat):Int):=by rw[w64 (by omega) (by omega)];omega
  have k':=Yk31_1 fs r0 e0 t0 f0 (p.map cn) (K1 p x i).r (K1 p x i).a (K1 p x i).t (K1 p x i).b k (i:Nat) (p.map cn) (K1 p x (i+1)).r (K1 p x (i+1)).t (K1 p x (i+1)).a (K1 p x (i+1)).b (by rw[decide_eq_true_eq];omega) (by rw[decide_eq_true_eq];omega) (Zg7 hp (Ms h i (by omega)) (by omega) hL);rwa [ei] at k') (Yk31_3 _ _ _ _ _ _ _ _ _ _ _ _ (by rw[decide_eq_false_iff_not];omega)) 0 (Nat.zero_le _)
end
section
variable {rs:List Rn} (hg:∀ r∈rs,Q5 5 r) (hn:rs.length<=9)
include hg hn
theorem Znx (r t:Rn) (e f:Int):Zc Yir 75 [.agg [.sl rs.length (pc rs),.bool r.1,.sl r.2.length (lm r.2),.int .i64 e,.bool t.1,.sl t.2.length (lm t.2),.int .i64 f]]
  (.agg [.sl ((Qg (Zf rs)).map cn).length (pc ((Qg (Zf rs)).map cn)),.bool r.1,.sl r.2.length (lm r.2),.int .i64 e,.bool t.1,.sl t.2.length (lm t.2),.int .i64 f]):=by
 rcases Rb (K:=5) (c:=9) hg hn (Nat.le_refl _) (by decide) with h | h
 ·exact Zoy rs r t e f _ h
 ·exact Zox rs r t e f _ h
theorem Zgb (r t:Rn) (e f:Int):Zc Yir 20 [.agg [.sl rs.length (pc rs),.bool r.1,.sl r.2.length (lm r.2),.int .i64 e,.bool t.1,.sl t.2.length (lm t.2),.int .i64 f]]
  (.agg [.sl ((Qg (Zf rs)).map cn).length (pc ((Qg (Zf rs)).map cn)),.bool r.1,.sl r.2.length (lm r.2),.int .i64 e,.bool t.1,.sl t.2.length (lm t.2),.int .i64 f]) :=
 Yrun20 rs r t e f _ (A9 (K:=5) (c:=9) hg hn (Nat.le_refl _) (by decide))
theorem Zha (h0:Ze (Zf rs) ≠ []):Fine (Qg (Zf rs))/\Vn (Qg (Zf rs)):=by
 obtain⟨k1,k2⟩:=Zb8 h0 (by rw[Zn];exact hn) (Bx (Q2 hg));have hl:=Qb (Zf rs);rw[Zn] at hl;exact⟨⟨k1.mono (by omega),by omega⟩,(M3 h0).1⟩
end
theorem Zct {rs:List Rn} {r t:Rn} {e f:Int} (h:Gf rs r e t f=true):Ze (Zf rs) ≠ []/\P7 r e=true/\P7 t f=true:=by
 unfold Gf at h;simp only[Bool.and_eq_true,decide_eq_true_eq] at h;refine⟨fun g => ?_,h.1.1.2,h.1.2⟩;have:=h.1.1.1.2;rw[g] at this;exact absurd this (by decide)
theorem Zw1:cn 0=(false,[]):=by decide
theorem Zhs (x:Int) (a:Nat):Gj x a x a=0:=by
 unfold Gj U0;rw[if_neg (by omega),if_neg (by omega)]
theorem Za7 {r:Rn} {e:Int} (hr:Q5 4 r) (hb:P7 r e=true) (he:e<=200):∃ a:Nat,e=(a:Nat)/\a<=200/\(Zh r).natAbs<=2^128*2^a:=by
 obtain⟨a,rfl,_,_⟩:=E4 hb;refine⟨a,rfl,by omega,?_⟩;have h1:(Zh r).natAbs<4294967296^4:=hr.fits;have h2:(4294967296:Nat)^4=2^128:=by decide
 have h3:2^128*1<=2^128*2^a:=Nat.mul_le_mul (Nat.le_refl _) (Nat.pow_pos (by decide));omega
theorem Mw (haw:Zc Yir 12 [] (.bool true)) {rs:List Rn} (hg:∀ r∈rs,Q5 35184372088832 r) {r t:Rn} (hu:U32 r.2) (ht:U32 t.2) (e f k:Int) :
  Zc Yir 6 [.agg [.sl rs.length (pc rs),.bool r.1,.sl r.2.length (lm r.2),.int .i64 e,.bool t.1,.sl t.2.length (lm t.2),.int .i64 f],.int .i64 k] (.bool true):=by
 have hfew:=Zws hg;by_cases c0:Zmg rs=true
 case neg =>
  rw[Bool.not_eq_true] at c0;rw[c0] at hfew;exact Zo4 rs r t e f k false rfl haw hfew
 obtain⟨h5,h9⟩:=Zwr hg c0;rw[c0] at hfew;by_cases c4:r.2.length<=4
 case neg=>exact Zxj rs r t e f k true rfl (by rw[decide_eq_true_eq];omega) haw hfew
 have d4:decide ((r.2.length:Int)>4)=false:=by rw[decide_eq_false_iff_not];omega
 by_cases c5:t.2.length<=4
 case neg=>exact Zxi rs r t e f k true rfl d4 (by rw[decide_eq_true_eq];omega) haw hfew
 have d5:decide ((t.2.length:Int)>4)=false:=by rw[decide_eq_false_iff_not];omega
 by_cases c6:e>200
 ·exact Zxh rs r t e f k true rfl d4 d5 (decide_eq_true c6) haw hfew
 by_cases c7:f>200
 ·exact Zxg rs r t e f k true rfl d4 d5 (decide_eq_false c6) (decide_eq_true c7) haw hfew
 by_cases c8:k>60
 ·exact Zxf rs r t e f k true rfl d4 d5 (decide_eq_false c6) (decide_eq_false c7) (decide_eq_true c8) haw hfew
 have gr:Q5 4 r:=⟨hu,c4⟩;have gt:Q5 4 t:=⟨ht,c5⟩;have v1:=Zfc h5 h9 (gr.mono (show 4<=100 by omega)) (gt.mono (show 4<=100 by omega)) e f;have v2:=Su h5 h9 (gr.mono (show 4<=100 by omega)) (gt.mono (show 4<=100 by omega)) e f;have bad:∀ h:Int,(h != 0)=true->Zc Yir 30 [.agg [.sl rs.length (pc rs),.bool r.1,.sl r.2.length (lm r.2),.int .i64 e,.bool t.1,.sl t.2.length (lm t.2),.int .i64 f],.int .i64 k] (.tup [.agg [.sl 0 [],.bool false,.sl 0 [],.int .i64 0,.bool false,.sl 0 [],.int .i64 0],.int .i64 h]) ->
   Zc Yir 31 [.agg [.sl rs.length (pc rs),.bool r.1,.sl r.2.length (lm r.2),.int .i64 e,.bool t.1,.sl t.2.length (lm t.2),.int .i64 f],.int .i64 k] (.tup [.agg [.sl 0 [],.bool false,.sl 0 [],.int .i64 0,.bool false,.sl 0 [],.int .i64 0],.int .i64 h]) ->
   Zc Yir 6 [.agg [.sl rs.length (pc rs),.bool r.1,.sl r.2.length (lm r.2),.int .i64 e,.bool t.1,.sl t.2.length (lm t.2),.int .i64 f],.int .i64 k] (.bool true):=by
  intro h h0 g1 g2;have n4:Zc Yir 30 [.agg [.sl rs.length (pc rs),.bool r.1,.sl r.2.length (lm r.2),.int .i64 e,.bool t.1,.sl t.2.length (lm t.2),.int .i64 f],.int .i64 k] (.tup [.agg [.sl ([]:List Rn).length (pc []),.bool ((cn 0).1),.sl ((cn 0).2.length) (lm (cn 0).2),.int .i64 0,.bool ((cn 0).1),.sl ((cn 0).2.length) (lm (cn 0).2),.int .i64 0],.int .i64 h]):=by
   rw[Zw1];exact g1
  exact Zxe rs r t e f [] [] k h 0 0 0 0 0 0 (false,[]) (false,[]) true (Gf rs r e t f) (by cases Gf rs r e t f <;> rfl) rfl d4 d5 (decide_eq_false c6) (decide_eq_false c7) (decide_eq_false c8) (bne_self_eq_false h) h0 haw hfew v2 n4 g2 v1
 cases cv:Gf rs r e t f with
 | false =>
  rw[cv] at v1 v2;exact bad 1 rfl (Zpm rs r t e f k false rfl v1) (Zpi rs r t e f k false rfl v2)
 | true =>
  obtain⟨h0,b1,b2⟩:=Zct cv;obtain⟨a,rfl,ha,va⟩:=Za7 gr b1 (by omega);obtain⟨b,rfl,hb,vb⟩:=Za7 gt b2 (by omega);obtain⟨hp,hL⟩:=Zha h5 h9 h0;have hI:IvOk 128 200 ⟨r,a,t,b⟩:=⟨gr.mono (show 4<=100 by omega),gt.mono (show 4<=100 by omega),ha,hb,va,vb⟩;have f1:=Znx h5 h9 r t (a:Nat) (b:Nat);have f2:=Zgb h5 h9 r t (a:Nat) (b:Nat);have eK:(if (if 256<k then 256 else k)>0 then (if 256<k then 256 else k) else 0)=(k.toNat:Int):=by
   rw[if_neg (show ¬ 256<k by omega)];split <;> omega
  have l1:=loopS hp hI (fs:=rs) (r0:=r) (e0:=(a:Nat)) (t0:=t) (f0:=(b:Nat)) (m:=k.toNat) (by omega);rw[<- eK] at l1;have l2:=loopH hp hI (fs:=rs) (r0:=r) (e0:=(a:Nat)) (t0:=t) (f0:=(b:Nat)) hL (k:=k) (by omega);have hO:=Ms (p:=Qg (Zf rs)) hI k.toNat (by omega);generalize K1 (Qg (Zf rs)) ⟨r,a,t,b⟩ k.toNat=y at l1 l2 hO;obtain⟨r1,a1,t1,b1'⟩:=y;have gr1:Q5 100 r1:=hO.gr;have gt1:Q5 100 t1:=hO.gt;have ha1:a1<=200+k.toNat:=hO.a;have hb1:b1'<=200+k.toNat:=hO.b;have x1:=Km (e:=(a1:Nat)) gr1;have x2:=Km (e:=(b1':Nat)) gt1;have y1:=Hp (e:=(a1:Nat)) gr1;have y2:=Hp (e:=(b1':Nat)) gt1;have w1:=v1;have w2:=v2;rw[cv] at w1 w2;cases q1:P7 r1 (a1:Nat) with
  | false =>
   rw[q1] at x1 y1;exact bad 9 rfl (Zpn rs r t (a:Nat) (b:Nat) _ _ k _ (a1:Nat) (b1':Nat) r1 t1 true false rfl rfl w1 f1 l1 x1) (Zpj rs r t (a:Nat) (b:Nat) _ _ k _ (a1:Nat) (b1':Nat) r1 t1 true false rfl rfl w2 f2 l2 y1)
  | true =>
   rw[q1] at x1 y1;cases q2:P7 t1 (b1':Nat) with
   | false =>
    rw[q2] at x2 y2;exact bad 9 rfl (Zpo rs r t (a:Nat) (b:Nat) _ _ k _ (a1:Nat) (b1':Nat) r1 t1 true true false rfl rfl rfl w1 f1 l1 x1 x2) (Zpk rs r t (a:Nat) (b:Nat) _ _ k _ (a1:Nat) (b1':Nat) r1 t1 true true false rfl rfl rfl w2 f2 l2 y1 y2)
   | true =>
    rw[q2] at x2 y2;have hm:∀ r∈rs,Q5 1048576 r:=fun r h=>(h5 r h).mono (by omega);have tr1:=U2 (W3 hm (by omega));have tr2:=U2 (Xf hm (by omega));have c1:=Zjk r1 (a1:Nat) _ (G2 (neg:=r1.1) gr1.1 (by have:=gr1.2;omega));have c2:=Zjk t1 (b1':Nat) _ (G2 (neg:=t1.1) gt1.1 (by have:=gt1.2;omega));have rt:=Yrun57 rs r1 t1 (a1:Nat) (b1':Nat) _ _ _ _ _ tr1 c1 c2;have g1:=Zpp rs r t (a:Nat) (b:Nat) _ _ _ k _ (Zh r1) (a1:Nat) (Zh t1) (b1':Nat) (a1:Nat) (b1':Nat) r1 t1 true true true rfl rfl rfl w1 f1 l1 x1 x2 rt;have g2:=Zpl rs r t (a:Nat) (b:Nat) _ _ _ k _ (a1:Nat) (b1':Nat) r1 t1 true true true rfl rfl rfl w2 f2 l2 y1 y2 tr2;have gk:∀ r∈(Ze (Zf rs)).map cn,Q5 5 r:=Kc (Xj (Q2 h5));have hl:=Qb (Zf rs);rw[Zn] at hl;have s:=Zfl (rs:=(Ze (Zf rs)).map cn) (fun r h=>(gk r h).mono (by omega)) (by rw[List.length_map];omega);have z1:=Xt (r:=cn (Zh r1)) (t:=r1) (a:=a1) (b:=a1) (Qi (gr1.mono (show 100<=200 by omega)).fits) (gr1.mono (show 100<=200 by omega)) (by omega) (by omega);have z2:=Xt (r:=cn (Zh t1)) (t:=t1) (a:=b1') (b:=b1') (Qi (gt1.mono (show 100<=200 by omega)).fits) (gt1.mono (show 100<=200 by omega)) (by omega) (by omega);rw[Z0,Zhs] at z1 z2;exact Zxd rs r t (a:Nat) (b:Nat) _ _ k 0 (Zh r1) (a1:Nat) (Zh t1) (b1':Nat) (a1:Nat) (b1':Nat) r1 t1 true _ (by cases Gf rs r (a:Nat) t (b:Nat) <;> rfl) rfl d4 d5 (decide_eq_false c6) (decide_eq_false c7) (decide_eq_false c8) (by decide) (by decide) (by decide) haw hfew v2 g1 g2 v1 s z1 z2
end Go.Proofs.YtopjpgejefileaaGreat

namespace Go.Proofs.YtopjpgejefileaaGreat
open Go.IntKind (i64 u64 u32)
open Go.Ai
set_option maxRecDepth 100000
theorem aw0:Zc Yir 118 [.sl 4 [.bool false,.sl 0 [],.bool true,.sl 1 [.int .u32 1],.bool false,.sl 0 [],.bool false,.sl 1 [.int .u32 1]],.sl 3 [.bool true,.sl 1 [.int .u32 1],.bool false,.sl 0 [],.bool false,.sl 1 [.int .u32 3]]] (.fresh 2 2 [.bool false,.sl 0 [],.bool true,.sl 1 [.int .u32 1]]):=Z6 Q0 (Zo _) 400 _ _ _ (by kernel_rfl)
theorem aw1:Zc Yir 118 [.sl 3 [.bool true,.sl 1 [.int .u32 1],.bool false,.sl 0 [],.bool false,.sl 1 [.int .u32 3]],.sl 2 [.bool false,.sl 0 [],.bool true,.sl 1 [.int .u32 1]]] (.fresh 2 1 [.bool true,.sl 1 [.int .u32 1]]):=Z6 Q0 (Zo _) 400 _ _ _ (by kernel_rfl)
theorem aw2:Zc Yir 118 [.sl 2 [.bool false,.sl 0 [],.bool true,.sl 1 [.int .u32 1]],.sl 1 [.bool true,.sl 1 [.int .u32 1]]] (.fresh 2 0 []):=Z6 Q0 (Zo _) 400 _ _ _ (by kernel_rfl)
theorem aw3:Zc Yir 135 [.sl 4 [.bool false,.sl 0 [],.bool true,.sl 1 [.int .u32 1],.bool false,.sl 0 [],.bool false,.sl 1 [.int .u32 1]],.sl 3 [.bool true,.sl 1 [.int .u32 1],.bool false,.sl 0 [],.bool false,.sl 1 [.int .u32 3]]] (.fresh 2 1 [.bool false,.sl 1 [.int .u32 1]]):=Z6 Q0 (Zl aw2 (Zl aw1 (Zl aw0 (Zo _)))) 400 _ _ _ (by kernel_rfl)
theorem aw4:Zc Yir 114 [.sl 4 [.bool false,.sl 0 [],.bool true,.sl 1 [.int .u32 1],.bool false,.sl 0 [],.bool false,.sl 1 [.int .u32 1]]] (.sl 4 [.bool false,.sl 0 [],.bool true,.sl 1 [.int .u32 1],.bool false,.sl 0 [],.bool false,.sl 1 [.int .u32 1]]):=Z6 Q0 (Zl aw3 (Zo _)) 400 _ _ _ (by kernel_rfl)
end Go.Proofs.YtopjpgejefileaaGreat

namespace Go.Proofs.YtopjpgejefileaaGreat
open Go.IntKind (i64 u64 u32)
open Go.Ai
set_option maxRecDepth 100000
theorem aw5:Zc Yir 118 [.sl 3 [.bool true,.sl 1 [.int .u32 1],.bool false,.sl 0 [],.bool false,.sl 1 [.int .u32 3]],.sl 2 [.bool false,.sl 0 [],.bool false,.sl 1 [.int .u32 1]]] (.fresh 2 1 [.bool true,.sl 1 [.int .u32 1]]):=Z6 Q0 (Zo _) 400 _ _ _ (by kernel_rfl)
theorem aw6:Zc Yir 118 [.sl 2 [.bool false,.sl 0 [],.bool false,.sl 1 [.int .u32 1]],.sl 1 [.bool false,.sl 1 [.int .u32 1]]] (.fresh 2 0 []):=Z6 Q0 (Zo _) 400 _ _ _ (by kernel_rfl)
theorem aw7:Zc Yir 67 [.sl 4 [.bool false,.sl 0 [],.bool true,.sl 1 [.int .u32 1],.bool false,.sl 0 [],.bool false,.sl 1 [.int .u32 1]]] (.fresh 1 4 [.sl 4 [.bool false,.sl 0 [],.bool true,.sl 1 [.int .u32 1],.bool false,.sl 0 [],.bool false,.sl 1 [.int .u32 1]],.sl 3 [.bool true,.sl 1 [.int .u32 1],.bool false,.sl 0 [],.bool false,.sl 1 [.int .u32 3]],.sl 2 [.bool false,.sl 0 [],.bool false,.sl 1 [.int .u32 1]],.sl 1 [.bool false,.sl 1 [.int .u32 1]]]):=Z6 Q0 (Zl aw6 (Zl aw5 (Zl aw4 (Zl aw0 (Zo _))))) 400 _ _ _ (by kernel_rfl)
theorem aw8:Zc Yir 65 [.sl 4 [.bool false,.sl 0 [],.bool true,.sl 1 [.int .u32 1],.bool false,.sl 0 [],.bool false,.sl 1 [.int .u32 1]],.agg [.bool true,.sl 1 [.int .u32 1],.int .i64 0]] (.int .i64 0):=Z6 Q0 (Zo _) 400 _ _ _ (by kernel_rfl)
theorem aw9:Zc Yir 68 [.sl 4 [.sl 4 [.bool false,.sl 0 [],.bool true,.sl 1 [.int .u32 1],.bool false,.sl 0 [],.bool false,.sl 1 [.int .u32 1]],.sl 3 [.bool true,.sl 1 [.int .u32 1],.bool false,.sl 0 [],.bool false,.sl 1 [.int .u32 3]],.sl 2 [.bool false,.sl 0 [],.bool false,.sl 1 [.int .u32 1]],.sl 1 [.bool false,.sl 1 [.int .u32 1]]],.agg [.bool true,.sl 1 [.int .u32 1],.int .i64 0]] (.int .i64 2):=Z6 Q0 (Zl aw8 (Zo _)) 400 _ _ _ (by kernel_rfl)
theorem aw10:Zc Yir 65 [.sl 4 [.bool false,.sl 0 [],.bool true,.sl 1 [.int .u32 1],.bool false,.sl 0 [],.bool false,.sl 1 [.int .u32 1]],.agg [.bool false,.sl 1 [.int .u32 2],.int .i64 0]] (.int .i64 1):=Z6 Q0 (Zo _) 400 _ _ _ (by kernel_rfl)
theorem aw11:Zc Yir 68 [.sl 4 [.sl 4 [.bool false,.sl 0 [],.bool true,.sl 1 [.int .u32 1],.bool false,.sl 0 [],.bool false,.sl 1 [.int .u32 1]],.sl 3 [.bool true,.sl 1 [.int .u32 1],.bool false,.sl 0 [],.bool false,.sl 1 [.int .u32 3]],.sl 2 [.bool false,.sl 0 [],.bool false,.sl 1 [.int .u32 1]],.sl 1 [.bool false,.sl 1 [.int .u32 1]]],.agg [.bool false,.sl 1 [.int .u32 2],.int .i64 0]] (.int .i64 0):=Z6 Q0 (Zl aw10 (Zo _)) 400 _ _ _ (by kernel_rfl)
end Go.Proofs.YtopjpgejefileaaGreat

namespace Go.Proofs.YtopjpgejefileaaGreat
open Go.IntKind (i64 u64 u32)
open Go.Ai
set_option maxRecDepth 100000
theorem aw12:Zc Yir 65 [.sl 4 [.bool false,.sl 0 [],.bool true,.sl 1 [.int .u32 1],.bool false,.sl 0 [],.bool false,.sl 1 [.int .u32 1]],.agg [.bool false,.sl 1 [.int .u32 1],.int .i64 1]] (.int .i64 (-1)):=Z6 Q0 (Zo _) 400 _ _ _ (by kernel_rfl)
theorem aw13:Zc Yir 68 [.sl 4 [.sl 4 [.bool false,.sl 0 [],.bool true,.sl 1 [.int .u32 1],.bool false,.sl 0 [],.bool false,.sl 1 [.int .u32 1]],.sl 3 [.bool true,.sl 1 [.int .u32 1],.bool false,.sl 0 [],.bool false,.sl 1 [.int .u32 3]],.sl 2 [.bool false,.sl 0 [],.bool false,.sl 1 [.int .u32 1]],.sl 1 [.bool false,.sl 1 [.int .u32 1]]],.agg [.bool false,.sl 1 [.int .u32 1],.int .i64 1]] (.int .i64 1):=Z6 Q0 (Zl aw12 (Zo _)) 400 _ _ _ (by kernel_rfl)
theorem aw14:Zc Yir 15 [.sl 4 [.bool false,.sl 0 [],.bool true,.sl 1 [.int .u32 1],.bool false,.sl 0 [],.bool false,.sl 1 [.int .u32 1]],.agg [.bool true,.sl 1 [.int .u32 1],.int .i64 0],.agg [.bool false,.sl 1 [.int .u32 2],.int .i64 0]] (.tup [.sl 2 [.sl 4 [.bool false,.sl 0 [],.bool true,.sl 1 [.int .u32 1],.bool false,.sl 0 [],.bool false,.sl 1 [.int .u32 1]],.bool true,.sl 1 [.int .u32 1],.int .i64 0,.bool false,.sl 1 [.int .u32 1],.int .i64 1,.sl 4 [.bool false,.sl 0 [],.bool true,.sl 1 [.int .u32 1],.bool false,.sl 0 [],.bool false,.sl 1 [.int .u32 1]],.bool false,.sl 1 [.int .u32 1],.int .i64 1,.bool false,.sl 1 [.int .u32 2],.int .i64 0],.int .i64 0]):=Z6 Q0 (Zl aw13 (Zl aw11 (Zl aw9 (Zl aw7 (Zo _))))) 400 _ _ _ (by kernel_rfl)
theorem aw15:Zc Yir 118 [.sl 3 [.bool true,.sl 1 [.int .u32 2],.bool false,.sl 0 [],.bool false,.sl 1 [.int .u32 1]],.sl 2 [.bool false,.sl 0 [],.bool false,.sl 1 [.int .u32 1]]] (.fresh 2 1 [.bool true,.sl 1 [.int .u32 1]]):=Z6 Q0 (Zo _) 400 _ _ _ (by kernel_rfl)
theorem aw16:Zc Yir 118 [.sl 2 [.bool false,.sl 0 [],.bool false,.sl 1 [.int .u32 1]],.sl 1 [.bool true,.sl 1 [.int .u32 1]]] (.fresh 2 0 []):=Z6 Q0 (Zo _) 400 _ _ _ (by kernel_rfl)
end Go.Proofs.YtopjpgejefileaaGreat

namespace Go.Proofs.YtopjpgejefileaaGreat
open Go.IntKind (i64 u64 u32)
open Go.Ai
set_option maxRecDepth 100000
theorem aw17:Zc Yir 135 [.sl 3 [.bool true,.sl 1 [.int .u32 2],.bool false,.sl 0 [],.bool false,.sl 1 [.int .u32 1]],.sl 2 [.bool false,.sl 0 [],.bool false,.sl 1 [.int .u32 2]]] (.fresh 2 1 [.bool false,.sl 1 [.int .u32 1]]):=Z6 Q0 (Zl aw16 (Zl aw15 (Zo _))) 400 _ _ _ (by kernel_rfl)
theorem aw18:Zc Yir 114 [.sl 3 [.bool true,.sl 1 [.int .u32 2],.bool false,.sl 0 [],.bool false,.sl 1 [.int .u32 1]]] (.sl 3 [.bool true,.sl 1 [.int .u32 2],.bool false,.sl 0 [],.bool false,.sl 1 [.int .u32 1]]):=Z6 Q0 (Zl aw17 (Zo _)) 400 _ _ _ (by kernel_rfl)
theorem aw19:Zc Yir 67 [.sl 3 [.bool true,.sl 1 [.int .u32 2],.bool false,.sl 0 [],.bool false,.sl 1 [.int .u32 1]]] (.fresh 1 3 [.sl 3 [.bool true,.sl 1 [.int .u32 2],.bool false,.sl 0 [],.bool false,.sl 1 [.int .u32 1]],.sl 2 [.bool false,.sl 0 [],.bool false,.sl 1 [.int .u32 1]],.sl 1 [.bool false,.sl 1 [.int .u32 1]]]):=Z6 Q0 (Zl aw18 (Zl aw15 (Zl aw6 (Zo _)))) 400 _ _ _ (by kernel_rfl)
theorem aw20:Zc Yir 68 [.sl 3 [.sl 3 [.bool true,.sl 1 [.int .u32 2],.bool false,.sl 0 [],.bool false,.sl 1 [.int .u32 1]],.sl 2 [.bool false,.sl 0 [],.bool false,.sl 1 [.int .u32 1]],.sl 1 [.bool false,.sl 1 [.int .u32 1]]],.agg [.bool false,.sl 0 [],.int .i64 0]] (.int .i64 1):=Z6 Q0 (Zo _) 400 _ _ _ (by kernel_rfl)
theorem aw21:Zc Yir 68 [.sl 3 [.sl 3 [.bool true,.sl 1 [.int .u32 2],.bool false,.sl 0 [],.bool false,.sl 1 [.int .u32 1]],.sl 2 [.bool false,.sl 0 [],.bool false,.sl 1 [.int .u32 1]],.sl 1 [.bool false,.sl 1 [.int .u32 1]]],.agg [.bool false,.sl 1 [.int .u32 2],.int .i64 0]] (.int .i64 0):=Z6 Q0 (Zo _) 400 _ _ _ (by kernel_rfl)
theorem aw22:Zc Yir 15 [.sl 3 [.bool true,.sl 1 [.int .u32 2],.bool false,.sl 0 [],.bool false,.sl 1 [.int .u32 1]],.agg [.bool false,.sl 0 [],.int .i64 0],.agg [.bool false,.sl 1 [.int .u32 2],.int .i64 0]] (.tup [.sl 1 [.sl 3 [.bool true,.sl 1 [.int .u32 2],.bool false,.sl 0 [],.bool false,.sl 1 [.int .u32 1]],.bool false,.sl 0 [],.int .i64 0,.bool false,.sl 1 [.int .u32 2],.int .i64 0],.int .i64 0]):=Z6 Q0 (Zl aw21 (Zl aw20 (Zl aw19 (Zo _)))) 400 _ _ _ (by kernel_rfl)
theorem aw23:Zc Yir 115 [.sl 4 [.bool false,.sl 0 [],.bool false,.sl 0 [],.bool false,.sl 0 [],.bool false,.sl 1 [.int .u32 4]]] (.fresh 2 4 [.bool false,.sl 0 [],.bool false,.sl 0 [],.bool false,.sl 0 [],.bool false,.sl 1 [.int .u32 1]]):=Z6 Q0 (Zo _) 400 _ _ _ (by kernel_rfl)
end Go.Proofs.YtopjpgejefileaaGreat

namespace Go.Proofs.YtopjpgejefileaaGreat
open Go.IntKind (i64 u64 u32)
open Go.Ai
set_option maxRecDepth 100000
theorem aw24:Zc Yir 118 [.sl 5 [.bool true,.sl 1 [.int .u32 4],.bool false,.sl 0 [],.bool false,.sl 0 [],.bool false,.sl 0 [],.bool false,.sl 1 [.int .u32 1]],.sl 4 [.bool false,.sl 0 [],.bool false,.sl 0 [],.bool false,.sl 0 [],.bool false,.sl 1 [.int .u32 1]]] (.fresh 2 1 [.bool true,.sl 1 [.int .u32 1]]):=Z6 Q0 (Zo _) 400 _ _ _ (by kernel_rfl)
theorem aw25:Zc Yir 118 [.sl 4 [.bool false,.sl 0 [],.bool false,.sl 0 [],.bool false,.sl 0 [],.bool false,.sl 1 [.int .u32 1]],.sl 1 [.bool true,.sl 1 [.int .u32 1]]] (.fresh 2 0 []):=Z6 Q0 (Zo _) 400 _ _ _ (by kernel_rfl)
theorem aw26:Zc Yir 114 [.sl 5 [.bool true,.sl 1 [.int .u32 4],.bool false,.sl 0 [],.bool false,.sl 0 [],.bool false,.sl 0 [],.bool false,.sl 1 [.int .u32 1]]] (.sl 5 [.bool true,.sl 1 [.int .u32 4],.bool false,.sl 0 [],.bool false,.sl 0 [],.bool false,.sl 0 [],.bool false,.sl 1 [.int .u32 1]]):=Z6 Q0 (Zl aw25 (Zl aw24 (Zl aw23 (Zo _)))) 400 _ _ _ (by kernel_rfl)
theorem aw27:Zc Yir 118 [.sl 4 [.bool false,.sl 0 [],.bool false,.sl 0 [],.bool false,.sl 0 [],.bool false,.sl 1 [.int .u32 1]],.sl 1 [.bool false,.sl 1 [.int .u32 1]]] (.fresh 2 0 []):=Z6 Q0 (Zo _) 400 _ _ _ (by kernel_rfl)
theorem aw28:Zc Yir 65 [.sl 5 [.bool true,.sl 1 [.int .u32 4],.bool false,.sl 0 [],.bool false,.sl 0 [],.bool false,.sl 0 [],.bool false,.sl 1 [.int .u32 1]],.agg [.bool false,.sl 0 [],.int .i64 0]] (.int .i64 (-1)):=Z6 Q0 (Zo _) 400 _ _ _ (by kernel_rfl)
theorem aw29:Zc Yir 68 [.sl 3 [.sl 5 [.bool true,.sl 1 [.int .u32 4],.bool false,.sl 0 [],.bool false,.sl 0 [],.bool false,.sl 0 [],.bool false,.sl 1 [.int .u32 1]],.sl 4 [.bool false,.sl 0 [],.bool false,.sl 0 [],.bool false,.sl 0 [],.bool false,.sl 1 [.int .u32 1]],.sl 1 [.bool false,.sl 1 [.int .u32 1]]],.agg [.bool false,.sl 0 [],.int .i64 0]] (.int .i64 1):=Z6 Q0 (Zl aw28 (Zo _)) 400 _ _ _ (by kernel_rfl)
end Go.Proofs.YtopjpgejefileaaGreat

namespace Go.Proofs.YtopjpgejefileaaGreat
open Go.IntKind (i64 u64 u32)
open Go.Ai
set_option maxRecDepth 100000
theorem aw30:Zc Yir 65 [.sl 5 [.bool true,.sl 1 [.int .u32 4],.bool false,.sl 0 [],.bool false,.sl 0 [],.bool false,.sl 0 [],.bool false,.sl 1 [.int .u32 1]],.agg [.bool false,.sl 1 [.int .u32 5],.int .i64 0]] (.int .i64 1):=Z6 Q0 (Zo _) 400 _ _ _ (by kernel_rfl)
theorem aw31:Zc Yir 65 [.sl 4 [.bool false,.sl 0 [],.bool false,.sl 0 [],.bool false,.sl 0 [],.bool false,.sl 1 [.int .u32 1]],.agg [.bool false,.sl 1 [.int .u32 5],.int .i64 0]] (.int .i64 1):=Z6 Q0 (Zo _) 400 _ _ _ (by kernel_rfl)
theorem aw32:Zc Yir 56 [.sl 5 [.bool true,.sl 1 [.int .u32 4],.bool false,.sl 0 [],.bool false,.sl 0 [],.bool false,.sl 0 [],.bool false,.sl 1 [.int .u32 1]],.agg [.bool false,.sl 0 [],.int .i64 0],.agg [.bool false,.sl 1 [.int .u32 5],.int .i64 0],.int .i64 896] (.tup [.sl 1 [.sl 5 [.bool true,.sl 1 [.int .u32 4],.bool false,.sl 0 [],.bool false,.sl 0 [],.bool false,.sl 0 [],.bool false,.sl 1 [.int .u32 1]],.bool false,.sl 0 [],.int .i64 0,.bool false,.sl 1 [.int .u32 5],.int .i64 0],.bool true]):=Z6 Q0 (Zl aw31 (Zl aw30 (Zl aw29 (Zl aw27 (Zl aw26 (Zl aw24 (Zl aw23 (Zo _)))))))) 400 _ _ _ (by kernel_rfl)
theorem aw33:Zc Yir 15 [.sl 5 [.bool true,.sl 1 [.int .u32 4],.bool false,.sl 0 [],.bool false,.sl 0 [],.bool false,.sl 0 [],.bool false,.sl 1 [.int .u32 1]],.agg [.bool false,.sl 0 [],.int .i64 0],.agg [.bool false,.sl 1 [.int .u32 5],.int .i64 0]] (.tup [.sl 1 [.sl 5 [.bool true,.sl 1 [.int .u32 4],.bool false,.sl 0 [],.bool false,.sl 0 [],.bool false,.sl 0 [],.bool false,.sl 1 [.int .u32 1]],.bool false,.sl 0 [],.int .i64 0,.bool false,.sl 1 [.int .u32 5],.int .i64 0],.int .i64 0]):=Z6 Q0 (Zl aw32 (Zo _)) 400 _ _ _ (by kernel_rfl)
theorem aw34:Zc Yir 76 [.agg [.sl 3 [.bool true,.sl 1 [.int .u32 2],.bool false,.sl 0 [],.bool false,.sl 1 [.int .u32 1]],.bool false,.sl 0 [],.int .i64 0,.bool false,.sl 1 [.int .u32 2],.int .i64 0],.agg [.bool false,.sl 1 [.int .u32 1],.int .i64 0]] (.int .i64 1):=Z6 Q0 (Zo _) 400 _ _ _ (by kernel_rfl)
theorem aw35:Zc Yir 76 [.agg [.sl 3 [.bool true,.sl 1 [.int .u32 2],.bool false,.sl 0 [],.bool false,.sl 1 [.int .u32 1]],.bool false,.sl 1 [.int .u32 1],.int .i64 0,.bool false,.sl 1 [.int .u32 2],.int .i64 0],.agg [.bool false,.sl 1 [.int .u32 3],.int .i64 1]] (.int .i64 (-1)):=Z6 Q0 (Zo _) 400 _ _ _ (by kernel_rfl)
theorem aw36:Zc Yir 76 [.agg [.sl 3 [.bool true,.sl 1 [.int .u32 2],.bool false,.sl 0 [],.bool false,.sl 1 [.int .u32 1]],.bool false,.sl 1 [.int .u32 1],.int .i64 0,.bool false,.sl 1 [.int .u32 3],.int .i64 1],.agg [.bool false,.sl 1 [.int .u32 3],.int .i64 1]] (.int .i64 (-1)):=Z6 Q0 (Zo _) 400 _ _ _ (by kernel_rfl)
end Go.Proofs.YtopjpgejefileaaGreat

namespace Go.Proofs.YtopjpgejefileaaGreat
open Go.IntKind (i64 u64 u32)
open Go.Ai
set_option maxRecDepth 100000
theorem aw37:Zc Yir 77 [.agg [.sl 3 [.bool true,.sl 1 [.int .u32 2],.bool false,.sl 0 [],.bool false,.sl 1 [.int .u32 1]],.bool false,.sl 0 [],.int .i64 0,.bool false,.sl 1 [.int .u32 2],.int .i64 0],.int .i64 1] (.agg [.bool false,.sl 1 [.int .u32 2]]):=Z6 Q0 (Zl aw36 (Zl aw35 (Zl aw34 (Zo _)))) 400 _ _ _ (by kernel_rfl)
theorem aw38:Zc Yir 18 [.agg [.sl 5 [.bool true,.sl 1 [.int .u32 4],.bool false,.sl 0 [],.bool false,.sl 0 [],.bool false,.sl 0 [],.bool false,.sl 1 [.int .u32 1]],.bool false,.sl 0 [],.int .i64 0,.bool false,.sl 1 [.int .u32 5],.int .i64 0]] (.bool true):=Z6 Q0 (Zl aw31 (Zl aw30 (Zl aw29 (Zl aw27 (Zl aw26 (Zl aw24 (Zl aw23 (Zo _)))))))) 400 _ _ _ (by kernel_rfl)
theorem aw39:Zc Yir 118 [.sl 3 [.bool true,.sl 1 [.int .u32 2],.bool false,.sl 0 [],.bool false,.sl 1 [.int .u32 1]],.sl 5 [.bool true,.sl 1 [.int .u32 4],.bool false,.sl 0 [],.bool false,.sl 0 [],.bool false,.sl 0 [],.bool false,.sl 1 [.int .u32 1]]] (.fresh 2 3 [.bool true,.sl 1 [.int .u32 2],.bool false,.sl 0 [],.bool false,.sl 1 [.int .u32 1]]):=Z6 Q0 (Zo _) 400 _ _ _ (by kernel_rfl)
theorem aw40:Zc Yir 115 [.sl 5 [.bool true,.sl 1 [.int .u32 4],.bool false,.sl 0 [],.bool false,.sl 1 [.int .u32 2],.bool false,.sl 0 [],.bool false,.sl 0 []]] (.fresh 2 3 [.bool true,.sl 1 [.int .u32 2],.bool false,.sl 0 [],.bool false,.sl 1 [.int .u32 1]]):=Z6 Q0 (Zo _) 400 _ _ _ (by kernel_rfl)
theorem aw41:Zc Yir 118 [.sl 5 [.bool true,.sl 1 [.int .u32 4],.bool false,.sl 0 [],.bool false,.sl 0 [],.bool false,.sl 0 [],.bool false,.sl 1 [.int .u32 1]],.sl 3 [.bool true,.sl 1 [.int .u32 2],.bool false,.sl 0 [],.bool false,.sl 1 [.int .u32 1]]] (.fresh 2 0 []):=Z6 Q0 (Zl aw40 (Zo _)) 400 _ _ _ (by kernel_rfl)
end Go.Proofs.YtopjpgejefileaaGreat

namespace Go.Proofs.YtopjpgejefileaaGreat
open Go.IntKind (i64 u64 u32)
open Go.Ai
set_option maxRecDepth 100000
theorem aw42:Zc Yir 135 [.sl 3 [.bool true,.sl 1 [.int .u32 2],.bool false,.sl 0 [],.bool false,.sl 1 [.int .u32 1]],.sl 5 [.bool true,.sl 1 [.int .u32 4],.bool false,.sl 0 [],.bool false,.sl 0 [],.bool false,.sl 0 [],.bool false,.sl 1 [.int .u32 1]]] (.sl 3 [.bool true,.sl 1 [.int .u32 2],.bool false,.sl 0 [],.bool false,.sl 1 [.int .u32 1]]):=Z6 Q0 (Zl aw41 (Zl aw39 (Zo _))) 400 _ _ _ (by kernel_rfl)
theorem aw43:Zc Yir 74 [.agg [.sl 3 [.bool true,.sl 1 [.int .u32 2],.bool false,.sl 0 [],.bool false,.sl 1 [.int .u32 1]],.bool false,.sl 0 [],.int .i64 0,.bool false,.sl 1 [.int .u32 2],.int .i64 0],.agg [.sl 5 [.bool true,.sl 1 [.int .u32 4],.bool false,.sl 0 [],.bool false,.sl 0 [],.bool false,.sl 0 [],.bool false,.sl 1 [.int .u32 1]],.bool false,.sl 0 [],.int .i64 0,.bool false,.sl 1 [.int .u32 5],.int .i64 0]] (.int .i64 0):=Z6 Q0 (Zl aw42 (Zl aw21 (Zl aw20 (Zl aw19 (Zo _))))) 400 _ _ _ (by kernel_rfl)
theorem aw44:Zc Yir 18 [.agg [.sl 4 [.bool false,.sl 0 [],.bool true,.sl 1 [.int .u32 1],.bool false,.sl 0 [],.bool false,.sl 1 [.int .u32 1]],.bool false,.sl 1 [.int .u32 1],.int .i64 1,.bool false,.sl 1 [.int .u32 2],.int .i64 0]] (.bool true):=Z6 Q0 (Zl aw13 (Zl aw11 (Zl aw7 (Zo _)))) 400 _ _ _ (by kernel_rfl)
theorem aw45:Zc Yir 65 [.sl 4 [.bool false,.sl 0 [],.bool true,.sl 1 [.int .u32 1],.bool false,.sl 0 [],.bool false,.sl 1 [.int .u32 1]],.agg [.bool false,.sl 1 [.int .u32 1],.int .i64 0]] (.int .i64 0):=Z6 Q0 (Zo _) 400 _ _ _ (by kernel_rfl)
theorem aw46:Zc Yir 18 [.agg [.sl 4 [.bool false,.sl 0 [],.bool true,.sl 1 [.int .u32 1],.bool false,.sl 0 [],.bool false,.sl 1 [.int .u32 1]],.bool true,.sl 1 [.int .u32 1],.int .i64 0,.bool false,.sl 1 [.int .u32 1],.int .i64 1]] (.bool true):=Z6 Q0 (Zl aw13 (Zl aw9 (Zl aw7 (Zo _)))) 400 _ _ _ (by kernel_rfl)
theorem aw47:Zc Yir 12 [] (.bool true):=Z6 Q0 (Zl aw46 (Zl aw45 (Zl aw44 (Zl aw43 (Zl aw38 (Zl aw37 (Zl aw33 (Zl aw26 (Zl aw22 (Zl aw21 (Zl aw20 (Zl aw19 (Zl aw18 (Zl aw14 (Zl aw10 (Zl aw4 (Zo _))))))))))))))))) 400 _ _ _ (by kernel_rfl)
theorem Yrun12:Zc Yir 12 [] (.bool true):=aw47
end Go.Proofs.YtopjpgejefileaaGreat
