/- Texts of the proof of RootIsolates: part 8 of 13. -/
import Derived.Test.YtajompaehjkgkaaGreatRis7
namespace Go.Proofs.YtajompaehjkgkaaGreat
open Go.Ai
set_option maxRecDepth 100000
open Decidable renaming decide->B
open Go.Ai.AV renaming bool->D,fresh->L,int->F,sl->H,tup->Ax
open Go.Ai.Reg renaming box->g,own->X,val->C
open Go.IntKind renaming i64->O,wrap->I
open Int renaming toNat->A
def GG(qs:List Rn)(k:Nat)(rs:List Rn)(t:Rn)(a:Rn)(b:Rn)(at1:Int)(n:Int)(i:Int):Al:=(Y 1 (C (sL pc qs)::(Y 3 (X 2 k (pc rs)::(g [D t.1,H t.2.length (lm t.2)]::(Y 2 (g [D a.1,H a.2.length (lm a.2)]::(Y 1 (g [D b.1,H b.2.length (lm b.2)]::(Y 1 (C (F O at1)::(Y 49 (C (F O n)::(C (F O i)::(Y 34 [])))))))))))))))
theorem Aam(qs:List Rn)(k:Nat)(rs:List Rn)(t:Rn)(a:Rn)(b:Rn)(at1:Int)(n:Int)(i:Int)(c1:B (i<n)=true)(c2:B (i>=at1)=true)(n1:0<=i/\i<(k:Int))(n2:rs.length=k)(n3:(rs.set (A i) (cn ((P (rs.getD (A i) z0))*(P a)))).length=k)(n4:0<=(I O (i-at1))/\(I O (i-at1))<(qs.length:Int))(n5:RQ 112 [As (rs.getD (A i) z0),As a] (Ah ((P (rs.getD (A i) z0))*(P a))))(n6:RQ 112 [As b,As (qs.getD (A (I O (i-at1))) z0)] (Ah ((P b)*(P (qs.getD (A (I O (i-at1))) z0)))))(n7:RQ 127 [As ((rs.set (A i) (cn ((P (rs.getD (A i) z0))*(P a)))).getD (A i) z0),Ah ((P b)*(P (qs.getD (A (I O (i-at1))) z0)))] (Ah ((P ((rs.set (A i) (cn ((P (rs.getD (A i) z0))*(P a)))).getD (A i) z0))-((P b)*(P (qs.getD (A (I O (i-at1))) z0)))))):Ar K_ (GG qs k rs t a b at1 n i) .norm (GG qs k ((rs.set (A i) (cn ((P (rs.getD (A i) z0))*(P a)))).set (A i) (cn ((P ((rs.set (A i) (cn ((P (rs.getD (A i) z0))*(P a)))).getD (A i) z0))-((P b)*(P (qs.getD (A (I O (i-at1))) z0)))))) t a b at1 n (I O (i+1))):=(G Bo 400 [.b true,.v (As (rs.getD (A i) z0)),.r (Ah ((P (rs.getD (A i) z0))*(P a))),.l (pc (rs.set (A i) (cn ((P (rs.getD (A i) z0))*(P a))))),.b true,.v (As ((rs.set (A i) (cn ((P (rs.getD (A i) z0))*(P a)))).getD (A i) z0)),.v (As (qs.getD (A (I O (i-at1))) z0)),.r (Ah ((P b)*(P (qs.getD (A (I O (i-at1))) z0)))),.r (Ah ((P ((rs.set (A i) (cn ((P (rs.getD (A i) z0))*(P a)))).getD (A i) z0))-((P b)*(P (qs.getD (A (I O (i-at1))) z0))))),.l (pc ((rs.set (A i) (cn ((P (rs.getD (A i) z0))*(P a)))).set (A i) (cn ((P ((rs.set (A i) (cn ((P (rs.getD (A i) z0))*(P a)))).getD (A i) z0))-((P b)*(P (qs.getD (A (I O (i-at1))) z0)))))))] [1,5,6,9,11,13,63,64] (S c1 (S n1 (S (Gb n2 n1) (S n5 (S n1 (S (F9 (r:=cn ((P (rs.getD (A i) z0))*(P a))) n2 n1) (S c2 (S n1 (S (Gb n3 n1) (S n4 (S (x n4) (S n6 (S n7 (S n1 (S (F9 (r:=cn ((P ((rs.set (A i) (cn ((P (rs.getD (A i) z0))*(P a)))).getD (A i) z0))-((P b)*(P (qs.getD (A (I O (i-at1))) z0))))) n3 n1) a0))))))))))))))))
theorem Aan(qs:List Rn)(k:Nat)(rs:List Rn)(t:Rn)(a:Rn)(b:Rn)(at1:Int)(n:Int)(i:Int)(c1:B (i<n)=true)(c2:B (i>=at1)=false)(n1:0<=i/\i<(k:Int))(n2:rs.length=k)(n3:RQ 112 [As (rs.getD (A i) z0),As a] (Ah ((P (rs.getD (A i) z0))*(P a)))):Ar K_ (GG qs k rs t a b at1 n i) .norm (GG qs k (rs.set (A i) (cn ((P (rs.getD (A i) z0))*(P a)))) t a b at1 n (I O (i+1))):=(G Bo 400 [.b true,.v (As (rs.getD (A i) z0)),.r (Ah ((P (rs.getD (A i) z0))*(P a))),.l (pc (rs.set (A i) (cn ((P (rs.getD (A i) z0))*(P a))))),.b false] [1,5,6,9,11,13,63,64] (S c1 (S n1 (S (Gb n2 n1) (S n3 (S n1 (S (F9 (r:=cn ((P (rs.getD (A i) z0))*(P a))) n2 n1) (S c2 a0))))))))
theorem Aao(qs:List Rn)(k:Nat)(rs:List Rn)(t:Rn)(a:Rn)(b:Rn)(at1:Int)(n:Int)(i:Int)(c1:B (i<n)=false):Ar K_ (GG qs k rs t a b at1 n i) (.exit 2) (GG qs k rs t a b at1 n i):=(G Bo 400 [.b false] [1,5,6,9,11,13,63,64] (S c1 a0))
def JJ(qs:List Rn)(k:Nat)(rs:List Rn)(t:Rn):Al:=(Y 1 (C (sL pc qs)::(Y 3 (X 2 k (pc rs)::(g [D t.1,H t.2.length (lm t.2)]::(Y 92 []))))))
theorem Atm(qs:List Rn)(k:Nat)(rs:List Rn)(t:Rn)(os us:List Rn)(a b:Rn)(g ab x y ny r1 r2 s at1 n i:Int)(c1:B ((k:Int)>=(qs.length:Int))=true)(c2:B (s<0)=true)(n1:0<=(I O ((k:Int)-1))/\(I O ((k:Int)-1))<(k:Int))(n2:rs.length=k)(n3:RQ 159 [As t,As (rs.getD (A (I O ((k:Int)-1))) z0)] (Ah g))(n4:RQ 160 [As t] (Ah ab))(n5:RQ 158 [Ah ab,Ah g] (Ax [Ah x,Ah r1]))(n6:RQ 158 [As (rs.getD (A (I O ((k:Int)-1))) z0),Ah g] (Ax [Ah y,Ah r2]))(n7:RQ 101 [As t] (F O s))(n8:RQ 131 [Ah y] (Ah ny))(hl9:Ar (.loop K_) (GG qs k rs t (cn x) (cn ny) (I O ((k:Int)-(qs.length:Int))) (k:Int) 0) (.exit 2) (GG qs k os t a b at1 n i))(n10:RQ 115 [H k (pc os)] (L 2 us.length (pc us))):Ar PK (JJ qs k rs t) .norm (JJ qs us.length us t):=(Cv.seq (G (t:=(Y 1 (vp qs::(Y 3 (X 2 k (pc rs)::(bR t::(Y 18 (.dup 5::(Y 73 []))))))))) Bo 400 [.b true] [1,5,6,25] (S c1 a0)) (Cd (W (W (W (W (W (q (Cv.seq (G Bo 400 [.v (As (rs.getD (A (I O ((k:Int)-1))) z0)),.r (Ah g),.r (Ah ab),.r (Ax [Ah x,Ah r1]),.r (Ax [Ah y,Ah r2]),.r (F O s),.b true,.r (Ah ny)] [1,5,6,9,11,13,63,64] (S n1 (S (Gb n2 n1) (S n3 (S n4 (S n5 (S n6 (S n7 (S c2 (S n8 a0)))))))))) (Cv.seq (Cv.block hl9) (G Bo 400 [.r (L 2 us.length (pc us))] [1,5,6] (S n10 a0))))))))))))
theorem Atn(qs:List Rn)(k:Nat)(rs:List Rn)(t:Rn)(os us:List Rn)(a b:Rn)(g ab x y r1 r2 s at1 n i:Int)(c1:B ((k:Int)>=(qs.length:Int))=true)(c2:B (s<0)=false)(n1:0<=(I O ((k:Int)-1))/\(I O ((k:Int)-1))<(k:Int))(n2:rs.length=k)(n3:RQ 159 [As t,As (rs.getD (A (I O ((k:Int)-1))) z0)] (Ah g))(n4:RQ 160 [As t] (Ah ab))(n5:RQ 158 [Ah ab,Ah g] (Ax [Ah x,Ah r1]))(n6:RQ 158 [As (rs.getD (A (I O ((k:Int)-1))) z0),Ah g] (Ax [Ah y,Ah r2]))(n7:RQ 101 [As t] (F O s))(hl8:Ar (.loop K_) (GG qs k rs t (cn x) (cn y) (I O ((k:Int)-(qs.length:Int))) (k:Int) 0) (.exit 2) (GG qs k os t a b at1 n i))(n9:RQ 115 [H k (pc os)] (L 2 us.length (pc us))):Ar PK (JJ qs k rs t) .norm (JJ qs us.length us t):=(Cv.seq (G (t:=(Y 1 (vp qs::(Y 3 (X 2 k (pc rs)::(bR t::(Y 18 (.dup 5::(Y 73 []))))))))) Bo 400 [.b true] [1,5,6,25] (S c1 a0)) (Cd (W (W (W (W (W (q (Cv.seq (G Bo 400 [.v (As (rs.getD (A (I O ((k:Int)-1))) z0)),.r (Ah g),.r (Ah ab),.r (Ax [Ah x,Ah r1]),.r (Ax [Ah y,Ah r2]),.r (F O s),.b false] [1,5,6,9,11,13,63,64] (S n1 (S (Gb n2 n1) (S n3 (S n4 (S n5 (S n6 (S n7 (S c2 a0))))))))) (Cv.seq (Cv.block hl8) (G Bo 400 [.r (L 2 us.length (pc us))] [1,5,6] (S n9 a0))))))))))))
theorem eY(qs:List Rn)(k:Nat)(rs:List Rn)(t:Rn)(c1:B ((k:Int)>=(qs.length:Int))=false):Ar PK (JJ qs k rs t) (.exit 0) (JJ qs k rs t):=(AJ (G Bo 400 [.b false] [1,5,6] (S c1 a0)) (by nofun))
theorem Ato(rs ss ps qs us:List Rn)(t:Rn)(k:Nat)(n1:RQ 115 [sL pc rs] (L 2 ps.length (pc ps)))(n2:RQ 115 [sL pc ss] (L 2 qs.length (pc qs)))(n3:0<=(I O ((qs.length:Int)-1))/\(I O ((qs.length:Int)-1))<(qs.length:Int))(hl4:Ar (.loop PK) (JJ qs ps.length ps (qs.getD (A (I O ((qs.length:Int)-1))) z0)) (.exit 0) (JJ qs k us t)):RQ 118 [sL pc rs,sL pc ss] (L 2 k (pc us)):=A8 UZ (Y 4 (X 2 k (pc us)::(Y 94 []))) (W (W (Cv.seq (G Bo 400 [.r (L 2 ps.length (pc ps)),.r (L 2 qs.length (pc qs)),.v (As (qs.getD (A (I O ((qs.length:Int)-1))) z0))] [1,5,6] (S n1 (S n2 (S n3 (S (x n3) a0))))) (Cv.seq (Cv.block hl4) (G Bo 400 [] [4] a0)))))
def JK(as1:List Rn)(bs:List Rn):Al:=(Y 5 (C (sL pc as1)::(C (sL pc bs)::(Y 13 []))))
theorem eZ(as1:List Rn)(bs:List Rn)(us:List Rn)(c1:B ((bs.length:Int)>0)=true)(n1:RQ 118 [sL pc as1,sL pc bs] (L 2 us.length (pc us))):Ar PN (JK as1 bs) .norm (JK bs us):=(G Bo 400 [.b true,.r (L 2 us.length (pc us))] [5,6] (S c1 (S n1 a0)))
theorem fA(as1:List Rn)(bs:List Rn)(c1:B ((bs.length:Int)>0)=false):Ar PN (JK as1 bs) (.exit 0) (JK as1 bs):=(G Bo 400 [.b false] [5,6] (S c1 a0))
theorem nR(rs ss ps qs as1 bs ts:List Rn)(n1:RQ 115 [sL pc rs] (L 2 ps.length (pc ps)))(n2:RQ 115 [sL pc ss] (L 2 qs.length (pc qs)))(hl3:Ar (.loop PN) (JK ps qs) (.exit 0) (JK as1 bs))(n4:RQ 155 [sL pc as1] (L 2 ts.length (pc ts))):RQ 135 [sL pc rs,sL pc ss] (L 2 ts.length (pc ts)):=A8 RW (Y 4 (X 2 ts.length (pc ts)::(Y 15 []))) (W (Cv.seq (G Bo 400 [.r (L 2 ps.length (pc ps)),.r (L 2 qs.length (pc qs))] [5,6] (S n1 (S n2 a0))) (Cv.seq (Cv.block hl3) (G Bo 400 [.r (L 2 ts.length (pc ts))] [4] (S n4 a0)))))
theorem nS(rs ss ps qs as1 bs:List Rn)(n1:RQ 115 [sL pc rs] (L 2 ps.length (pc ps)))(n2:RQ 115 [sL pc ss] (L 2 qs.length (pc qs)))(hl3:Ar (.loop PN) (JK ps qs) (.exit 0) (JK as1 bs))(n4:RQ 155 [sL pc as1] (sL pc as1)):RQ 135 [sL pc rs,sL pc ss] (sL pc as1):=A8 RW (Y 4 (C (sL pc as1)::(Y 15 []))) (W (Cv.seq (G Bo 400 [.r (L 2 ps.length (pc ps)),.r (L 2 qs.length (pc qs))] [5,6] (S n1 (S n2 a0))) (Cv.seq (Cv.block hl3) (G Bo 400 [.r (sL pc as1)] [4] (S n4 a0)))))
def Ji(qs:List Rn)(k:Nat)(rs:List Rn)(t:Rn)(kq:Nat)(os:List Rn)(j:Int)(l:Rn)(n:Int)(i:Int):Al:=(Y 1 (C (sL pc qs)::(Y 3 (X 2 k (pc rs)::(g [D t.1,H t.2.length (lm t.2)]::(X 2 kq (pc os)::(C (F O j)::(g [D l.1,H l.2.length (lm l.2)]::(Y 34 (C (F O n)::(C (F O i)::(Y 57 []))))))))))))
theorem Aap(qs:List Rn)(k:Nat)(rs:List Rn)(t:Rn)(kq:Nat)(os:List Rn)(j:Int)(l:Rn)(n:Int)(i:Int)(c1:B (i<n)=true)(n1:0<=i/\i<(k:Int))(n2:rs.length=k)(n3:RQ 112 [As (rs.getD (A i) z0),As t] (Ah ((P (rs.getD (A i) z0))*(P t)))):Ar OJ (Ji qs k rs t kq os j l n i) .norm (Ji qs k (rs.set (A i) (cn ((P (rs.getD (A i) z0))*(P t)))) t kq os j l n (I O (i+1))):=(G Bo 400 [.b true,.v (As (rs.getD (A i) z0)),.r (Ah ((P (rs.getD (A i) z0))*(P t))),.l (pc (rs.set (A i) (cn ((P (rs.getD (A i) z0))*(P t)))))] [1,5,6,7,8,9,44,45] (S c1 (S n1 (S (Gb n2 n1) (S n3 (S n1 (S (F9 (r:=cn ((P (rs.getD (A i) z0))*(P t))) n2 n1) a0)))))))
theorem Aaq(qs:List Rn)(k:Nat)(rs:List Rn)(t:Rn)(kq:Nat)(os:List Rn)(j:Int)(l:Rn)(n:Int)(i:Int)(c1:B (i<n)=false):Ar OJ (Ji qs k rs t kq os j l n i) (.exit 2) (Ji qs k rs t kq os j l n i):=(G Bo 400 [.b false] [1,5,6,7,8,9,44,45] (S c1 a0))
def Jj(qs:List Rn)(k:Nat)(rs:List Rn)(t:Rn)(kq:Nat)(os:List Rn)(j:Int)(l:Rn)(n:Int)(i:Int):Al:=(Y 1 (C (sL pc qs)::(Y 3 (X 2 k (pc rs)::(g [D t.1,H t.2.length (lm t.2)]::(X 2 kq (pc os)::(C (F O j)::(g [D l.1,H l.2.length (lm l.2)]::(Y 49 (C (F O n)::(C (F O i)::(Y 42 []))))))))))))
theorem Aar(qs:List Rn)(k:Nat)(rs:List Rn)(t:Rn)(kq:Nat)(os:List Rn)(j:Int)(l:Rn)(n:Int)(i:Int)(c1:B (i<n)=true)(n1:0<=i/\i<(kq:Int))(n2:os.length=kq)(n3:RQ 112 [As (os.getD (A i) z0),As t] (Ah ((P (os.getD (A i) z0))*(P t)))):Ar OK (Jj qs k rs t kq os j l n i) .norm (Jj qs k rs t kq (os.set (A i) (cn ((P (os.getD (A i) z0))*(P t)))) j l n (I O (i+1))):=(G Bo 400 [.b true,.v (As (os.getD (A i) z0)),.r (Ah ((P (os.getD (A i) z0))*(P t))),.l (pc (os.set (A i) (cn ((P (os.getD (A i) z0))*(P t)))))] [1,5,6,7,8,9,59,60] (S c1 (S n1 (S (Gb n2 n1) (S n3 (S n1 (S (F9 (r:=cn ((P (os.getD (A i) z0))*(P t))) n2 n1) a0)))))))
theorem Aas(qs:List Rn)(k:Nat)(rs:List Rn)(t:Rn)(kq:Nat)(os:List Rn)(j:Int)(l:Rn)(n:Int)(i:Int)(c1:B (i<n)=false):Ar OK (Jj qs k rs t kq os j l n i) (.exit 4) (Jj qs k rs t kq os j l n i):=(G Bo 400 [.b false] [1,5,6,7,8,9,59,60] (S c1 a0))
def Jk(qs:List Rn)(k:Nat)(rs:List Rn)(t:Rn)(kq:Nat)(os:List Rn)(j:Int)(l:Rn)(n:Int)(i:Int):Al:=(Y 1 (C (sL pc qs)::(Y 3 (X 2 k (pc rs)::(g [D t.1,H t.2.length (lm t.2)]::(X 2 kq (pc os)::(C (F O j)::(g [D l.1,H l.2.length (lm l.2)]::(Y 68 (C (F O n)::(C (F O i)::(Y 23 []))))))))))))
theorem Aat(qs:List Rn)(k:Nat)(rs:List Rn)(t:Rn)(kq:Nat)(os:List Rn)(j:Int)(l:Rn)(n:Int)(i:Int)(c1:B (i<n)=true)(n1:0<=(I O (j+i))/\(I O (j+i))<(k:Int))(n2:rs.length=k)(n3:0<=i/\i<(qs.length:Int))(n4:RQ 112 [As l,As (qs.getD (A i) z0)] (Ah ((P l)*(P (qs.getD (A i) z0)))))(n5:RQ 127 [As (rs.getD (A (I O (j+i))) z0),Ah ((P l)*(P (qs.getD (A i) z0)))] (Ah ((P (rs.getD (A (I O (j+i))) z0))-((P l)*(P (qs.getD (A i) z0)))))):Ar OL (Jk qs k rs t kq os j l n i) .norm (Jk qs k (rs.set (A (I O (j+i))) (cn ((P (rs.getD (A (I O (j+i))) z0))-((P l)*(P (qs.getD (A i) z0)))))) t kq os j l n (I O (i+1))):=(G Bo 400 [.b true,.v (As (rs.getD (A (I O (j+i))) z0)),.v (As (qs.getD (A i) z0)),.r (Ah ((P l)*(P (qs.getD (A i) z0)))),.r (Ah ((P (rs.getD (A (I O (j+i))) z0))-((P l)*(P (qs.getD (A i) z0))))),.l (pc (rs.set (A (I O (j+i))) (cn ((P (rs.getD (A (I O (j+i))) z0))-((P l)*(P (qs.getD (A i) z0)))))))] [1,5,6,7,8,9,78,79] (S c1 (S n1 (S (Gb n2 n1) (S n3 (S (x n3) (S n4 (S n5 (S n1 (S (F9 (r:=cn ((P (rs.getD (A (I O (j+i))) z0))-((P l)*(P (qs.getD (A i) z0))))) n2 n1) a0))))))))))
theorem Aau(qs:List Rn)(k:Nat)(rs:List Rn)(t:Rn)(kq:Nat)(os:List Rn)(j:Int)(l:Rn)(n:Int)(i:Int)(c1:B (i<n)=false):Ar OL (Jk qs k rs t kq os j l n i) (.exit 6) (Jk qs k rs t kq os j l n i):=(G Bo 400 [.b false] [1,5,6,7,8,9,78,79] (S c1 a0))
def Qj(qs:List Rn)(k:Nat)(rs:List Rn)(t:Rn)(kq:Nat)(os:List Rn)(j:Int):Al:=(Y 1 (C (sL pc qs)::(Y 3 (X 2 k (pc rs)::(g [D t.1,H t.2.length (lm t.2)]::(X 2 kq (pc os)::(C (F O j)::(Y 94 []))))))))
theorem Atp(qs:List Rn)(k:Nat)(rs:List Rn)(t:Rn)(kq:Nat)(os:List Rn)(j:Int)(rs1 rs2 os1:List Rn)(m1 i1 m2 i2 m3 i3:Int)(c1:B (j>=0)=true)(n1:0<=(I O ((I O (j+(qs.length:Int)))-1))/\(I O ((I O (j+(qs.length:Int)))-1))<(k:Int))(n2:rs.length=k)(hl3:Ar (.loop OJ) (Ji qs k rs t kq os j (rs.getD (A (I O ((I O (j+(qs.length:Int)))-1))) z0) (k:Int) 0) (.exit 2) (Ji qs k rs1 t kq os j (rs.getD (A (I O ((I O (j+(qs.length:Int)))-1))) z0) m1 i1))(hl4:Ar (.loop OK) (Jj qs k rs1 t kq os j (rs.getD (A (I O ((I O (j+(qs.length:Int)))-1))) z0) (kq:Int) 0) (.exit 4) (Jj qs k rs1 t kq os1 j (rs.getD (A (I O ((I O (j+(qs.length:Int)))-1))) z0) m2 i2))(n5:0<=j/\j<(kq:Int))(n6:os1.length=kq)(hl7:Ar (.loop OL) (Jk qs k rs1 t kq (os1.set (A j) (rs.getD (A (I O ((I O (j+(qs.length:Int)))-1))) z0)) j (rs.getD (A (I O ((I O (j+(qs.length:Int)))-1))) z0) (qs.length:Int) 0) (.exit 6) (Jk qs k rs2 t kq (os1.set (A j) (rs.getD (A (I O ((I O (j+(qs.length:Int)))-1))) z0)) j (rs.getD (A (I O ((I O (j+(qs.length:Int)))-1))) z0) m3 i3)):Ar Vs (Qj qs k rs t kq os j) .norm (Qj qs k rs2 t kq (os1.set (A j) (rs.getD (A (I O ((I O (j+(qs.length:Int)))-1))) z0)) (I O (j-1))):=(Cv.seq (G (t:=(Y 1 (vp qs::(Y 3 (X 2 k (pc rs)::(bR t::(X 2 kq (pc os)::(vi j::(Y 94 []))))))))) Bo 400 [.b true] [1,5,6,7,8] (S c1 a0)) (Cv.seq (Cd (q (Cv.seq (G Bo 400 [.v (As (rs.getD (A (I O ((I O (j+(qs.length:Int)))-1))) z0))] [1,5,6,7,8,9,44,45] (S n1 (S (Gb n2 n1) a0))) (Cv.seq (Cv.block hl3) (Cv.seq (Cv.seq (G Bo 400 [] [1,5,6,7,8,9,59,60] a0) (Cv.block hl4)) (W (Cv.seq (G Bo 400 [.l (pc (os1.set (A j) (rs.getD (A (I O ((I O (j+(qs.length:Int)))-1))) z0)))] [1,5,6,7,8,9,78,79] (S n5 (S (F9 (r:=rs.getD (A (I O ((I O (j+(qs.length:Int)))-1))) z0) n6 n5) a0))) (Cv.block hl7)))))))) (G Bo 400 [] [1,5,6,7,8] a0)))
theorem Atq(qs:List Rn)(k:Nat)(rs:List Rn)(t:Rn)(kq:Nat)(os:List Rn)(j:Int)(c1:B (j>=0)=false):Ar Vs (Qj qs k rs t kq os j) (.exit 0) (Qj qs k rs t kq os j):=(AJ (G Bo 400 [.b false] [1,5,6,7,8] (S c1 a0)) (by nofun))
theorem Atr(rs qs ps us xs os:List Rn)(t:Rn)(k kq:Nat)(j:Int)(n1:RQ 66 [sL pc rs] (L 2 ps.length (pc ps)))(n2:0<=(I O ((qs.length:Int)-1))/\(I O ((qs.length:Int)-1))<(qs.length:Int))(n3:0<=(I O ((I O ((ps.length:Int)-(qs.length:Int)))+1))/\(I O ((I O ((ps.length:Int)-(qs.length:Int)))+1))<=1048576)(hl4:Ar (.loop Vs) ((Y 1 (C (sL pc qs)::(Y 3 (X 2 ps.length (pc ps)::(g [D ((qs.getD (A (I O ((qs.length:Int)-1))) z0).1),H ((qs.getD (A (I O ((qs.length:Int)-1))) z0).2.length) (lm (qs.getD (A (I O ((qs.length:Int)-1))) z0).2)]::(X 2 (A (I O ((I O ((ps.length:Int)-(qs.length:Int)))+1))) (Cu [D false,H 0 []] (A (I O ((I O ((ps.length:Int)-(qs.length:Int)))+1))))::(C (F O (I O ((((A (I O ((I O ((ps.length:Int)-(qs.length:Int)))+1))):Nat):Int)-1)))::(Y 94 []))))))))) (.exit 0) (Qj qs k xs t kq os j))(n5:RQ 115 [H kq (pc os)] (L 2 us.length (pc us))):RQ 156 [sL pc rs,sL pc qs] (L 2 us.length (pc us)):=A8 Vt (Y 4 (X 2 us.length (pc us)::(Y 98 []))) (W (W (W (q (Cv.seq (G Bo 400 [.r (L 2 ps.length (pc ps)),.v (As (qs.getD (A (I O ((qs.length:Int)-1))) z0))] [1,5,6,7,8] (S n1 (S n2 (S (x n2) (S n3 a0))))) (Cv.seq (Cv.block hl4) (G Bo 400 [.r (L 2 us.length (pc us))] [4] (S n5 a0))))))))
theorem Xl(rs ps xs:List Rn)(c1:B ((xs.length:Int)<2)=true)(n1:RQ 115 [sL pc rs] (L 2 ps.length (pc ps)))(n2:RQ 155 [sL pc ps] (L 2 xs.length (pc xs))):RQ 114 [sL pc rs] (sL pc xs):=i (fn:=In) Bo rfl 400 rfl [.r (L 2 ps.length (pc ps)),.r (L 2 xs.length (pc xs)),.b true] (S n1 (S n2 (S c1 a0)))
theorem Xm(rs ps xs ds gs:List Rn)(c1:B ((xs.length:Int)<2)=false)(c2:B ((gs.length:Int)<2)=true)(n1:RQ 115 [sL pc rs] (L 2 ps.length (pc ps)))(n2:RQ 155 [sL pc ps] (L 2 xs.length (pc xs)))(n3:RQ 116 [sL pc xs] (L 2 ds.length (pc ds)))(n4:RQ 135 [sL pc xs,sL pc ds] (L 2 gs.length (pc gs))):RQ 114 [sL pc rs] (sL pc xs):=i (fn:=In) Bo rfl 400 rfl [.r (L 2 ps.length (pc ps)),.r (L 2 xs.length (pc xs)),.b false,.r (L 2 ds.length (pc ds)),.r (L 2 gs.length (pc gs)),.b true] (S n1 (S n2 (S c1 (S n3 (S n4 (S c2 a0))))))
theorem Xn(rs ps xs ds gs us:List Rn)(c1:B ((xs.length:Int)<2)=false)(c2:B ((gs.length:Int)<2)=false)(n1:RQ 115 [sL pc rs] (L 2 ps.length (pc ps)))(n2:RQ 155 [sL pc ps] (L 2 xs.length (pc xs)))(n3:RQ 116 [sL pc xs] (L 2 ds.length (pc ds)))(n4:RQ 135 [sL pc xs,sL pc ds] (L 2 gs.length (pc gs)))(n5:RQ 156 [sL pc xs,sL pc gs] (L 2 us.length (pc us))):RQ 114 [sL pc rs] (L 2 us.length (pc us)):=i (fn:=In) Bo rfl 400 rfl [.r (L 2 ps.length (pc ps)),.r (L 2 xs.length (pc xs)),.b false,.r (L 2 ds.length (pc ds)),.r (L 2 gs.length (pc gs)),.b false,.r (L 2 us.length (pc us))] (S n1 (S n2 (S c1 (S n3 (S n4 (S c2 (S n5 a0)))))))
theorem Xo(rs ps xs ds gs:List Rn)(c1:B ((xs.length:Int)<2)=false)(c2:B ((gs.length:Int)<2)=true)(n1:RQ 115 [sL pc rs] (L 2 ps.length (pc ps)))(n2:RQ 155 [sL pc ps] (L 2 xs.length (pc xs)))(n3:RQ 116 [sL pc xs] (L 2 ds.length (pc ds)))(n4:RQ 135 [sL pc xs,sL pc ds] (sL pc gs)):RQ 114 [sL pc rs] (sL pc xs):=i (fn:=In) Bo rfl 400 rfl [.r (L 2 ps.length (pc ps)),.r (L 2 xs.length (pc xs)),.b false,.r (L 2 ds.length (pc ds)),.r (sL pc gs),.b true] (S n1 (S n2 (S c1 (S n3 (S n4 (S c2 a0))))))
theorem Xp(rs ps xs ds gs us:List Rn)(c1:B ((xs.length:Int)<2)=false)(c2:B ((gs.length:Int)<2)=false)(n1:RQ 115 [sL pc rs] (L 2 ps.length (pc ps)))(n2:RQ 155 [sL pc ps] (L 2 xs.length (pc xs)))(n3:RQ 116 [sL pc xs] (L 2 ds.length (pc ds)))(n4:RQ 135 [sL pc xs,sL pc ds] (sL pc gs))(n5:RQ 156 [sL pc xs,sL pc gs] (L 2 us.length (pc us))):RQ 114 [sL pc rs] (L 2 us.length (pc us)):=i (fn:=In) Bo rfl 400 rfl [.r (L 2 ps.length (pc ps)),.r (L 2 xs.length (pc xs)),.b false,.r (L 2 ds.length (pc ds)),.r (sL pc gs),.b false,.r (L 2 us.length (pc us))] (S n1 (S n2 (S c1 (S n3 (S n4 (S c2 (S n5 a0)))))))
theorem Xq(rs ps ds gs:List Rn)(c1:B ((ps.length:Int)<2)=false)(c2:B ((gs.length:Int)<2)=true)(n1:RQ 115 [sL pc rs] (L 2 ps.length (pc ps)))(n2:RQ 155 [sL pc ps] (sL pc ps))(n3:RQ 116 [sL pc ps] (L 2 ds.length (pc ds)))(n4:RQ 135 [sL pc ps,sL pc ds] (L 2 gs.length (pc gs))):RQ 114 [sL pc rs] (sL pc ps):=i (fn:=In) Bo rfl 400 rfl [.r (L 2 ps.length (pc ps)),.r (sL pc ps),.b false,.r (L 2 ds.length (pc ds)),.r (L 2 gs.length (pc gs)),.b true] (S n1 (S n2 (S c1 (S n3 (S n4 (S c2 a0))))))
theorem Xr(rs ps ds gs us:List Rn)(c1:B ((ps.length:Int)<2)=false)(c2:B ((gs.length:Int)<2)=false)(n1:RQ 115 [sL pc rs] (L 2 ps.length (pc ps)))(n2:RQ 155 [sL pc ps] (sL pc ps))(n3:RQ 116 [sL pc ps] (L 2 ds.length (pc ds)))(n4:RQ 135 [sL pc ps,sL pc ds] (L 2 gs.length (pc gs)))(n5:RQ 156 [sL pc ps,sL pc gs] (L 2 us.length (pc us))):RQ 114 [sL pc rs] (L 2 us.length (pc us)):=i (fn:=In) Bo rfl 400 rfl [.r (L 2 ps.length (pc ps)),.r (sL pc ps),.b false,.r (L 2 ds.length (pc ds)),.r (L 2 gs.length (pc gs)),.b false,.r (L 2 us.length (pc us))] (S n1 (S n2 (S c1 (S n3 (S n4 (S c2 (S n5 a0)))))))
theorem Xs(rs ps:List Rn)(c1:B ((ps.length:Int)<2)=true)(n1:RQ 115 [sL pc rs] (L 2 ps.length (pc ps)))(n2:RQ 155 [sL pc ps] (sL pc ps)):RQ 114 [sL pc rs] (sL pc ps):=i (fn:=In) Bo rfl 400 rfl [.r (L 2 ps.length (pc ps)),.r (sL pc ps),.b true] (S n1 (S n2 (S c1 a0)))
theorem Xt(rs ps ds gs:List Rn)(c1:B ((ps.length:Int)<2)=false)(c2:B ((gs.length:Int)<2)=true)(n1:RQ 115 [sL pc rs] (L 2 ps.length (pc ps)))(n2:RQ 155 [sL pc ps] (sL pc ps))(n3:RQ 116 [sL pc ps] (L 2 ds.length (pc ds)))(n4:RQ 135 [sL pc ps,sL pc ds] (sL pc gs)):RQ 114 [sL pc rs] (sL pc ps):=i (fn:=In) Bo rfl 400 rfl [.r (L 2 ps.length (pc ps)),.r (sL pc ps),.b false,.r (L 2 ds.length (pc ds)),.r (sL pc gs),.b true] (S n1 (S n2 (S c1 (S n3 (S n4 (S c2 a0))))))
theorem Xu(rs ps ds gs us:List Rn)(c1:B ((ps.length:Int)<2)=false)(c2:B ((gs.length:Int)<2)=false)(n1:RQ 115 [sL pc rs] (L 2 ps.length (pc ps)))(n2:RQ 155 [sL pc ps] (sL pc ps))(n3:RQ 116 [sL pc ps] (L 2 ds.length (pc ds)))(n4:RQ 135 [sL pc ps,sL pc ds] (sL pc gs))(n5:RQ 156 [sL pc ps,sL pc gs] (L 2 us.length (pc us))):RQ 114 [sL pc rs] (L 2 us.length (pc us)):=i (fn:=In) Bo rfl 400 rfl [.r (L 2 ps.length (pc ps)),.r (sL pc ps),.b false,.r (L 2 ds.length (pc ds)),.r (sL pc gs),.b false,.r (L 2 us.length (pc us))] (S n1 (S n2 (S c1 (S n3 (S n4 (S c2 (S n5 a0)))))))
end Go.Proofs.YtajompaehjkgkaaGreat
namespace Go.Ai
open Classical renaming byContradiction->A5
open Decidable renaming decide->B
open Int renaming add_zero->B5,dvd_add_right->Afg,dvd_mul_right->RE,dvd_trans->P3,eq_of_mul_eq_mul_left->I2,mul_assoc->AH,mul_ediv_cancel'->IC,mul_eq_zero->KR,mul_ne_zero->BW,mul_sub->Hu,mul_zero->AM,natAbs->E,natAbs_dvd->A0x,natAbs_mul->BK,natCast_mul->CQ,ofNat_dvd_left->G4,pow_succ->A2,pow_zero->CE
open List renaming countP_eq_length_filter->H4,eq_nil_of_length_eq_zero->A9,getD_cons_succ->Ka,getD_cons_zero->I',getD_eq_getElem?_getD->Z,getElem?_map->Ch,length->Bh,length_cons->Bv,length_eq_countP_add_countP->qS,length_pos_iff->An,length_take->AB,map_congr_left->Gj,mem_cons_of_mem->Bi,mem_cons_self->By,mem_filter->IE,mem_map->Em,mem_of_mem_take->C3,mem_range->I9,nodup_cons->MZ,nodup_iff_pairwise_ne->WS,range->Aq,take_sublist->A7d
open Nat renaming eq_zero_or_pos->FJ,gcd->Ix,le_max_right->Ats,le_mul_of_pos_left->X7,le_mul_of_pos_right->BP,le_of_dvd->Rf,le_of_lt->WN,le_of_not_lt->Np,le_refl->Ap,le_trans->Be,lt_of_le_of_lt->Dt,lt_pow_self->Ul,max->sK,mul_assoc->EQ,mul_le_mul->Bj,mul_le_mul_left->AL,mul_one->I6,mul_zero->aD,pow_add->De,pow_le_pow_right->BF,pow_pos->BS,pow_succ->FM,strongRecOn->TN
theorem nT(c:Nat)(hc:1<c):∃ p,1<p/\p∣c/\∀ d,d∣p->d=1\/d=p:=by
 have h:∀ n,∀ m,m<=n->1<m->m∣c->∃ p,1<p/\p∣c/\∀ d,d∣p->d=1\/d=p:=by
  intro n;induction n with
  | zero=>intro m h1 h2;omega
  | succ n ih =>
   intro m h1 h2 h3;by_cases h:∀ d,d∣m->d=1\/d=m
   ·exact⟨m,h2,h3,h⟩
   ·obtain⟨d,hd⟩:=Classical.not_forall.1 h;obtain⟨hd1,hd2⟩:=Classical.not_imp.1 hd;have h5:=Rf (by omega) hd1;have h6:d ≠ 0:=by intro h0;subst h0;have:=Nat.zero_dvd.1 hd1;omega
    exact ih d (by omega) (by omega) (Nat.dvd_trans hd1 h3)
 exact h c c (Ap _) hc (Nat.dvd_refl _)
theorem nU{p:Nat}(hp:∀ d,d∣p->d=1\/d=p){a b:Int}(h:(p:Int)∣a*b):(p:Int)∣a\/(p:Int)∣b:=by
 rcases hp (Ix p a.natAbs) (Nat.gcd_dvd_left _ _) with g | g
 ·right;have h1:p∣a.natAbs*b.natAbs:=by rw[<- BK];exact G4.1 h
  exact G4.2 (Nat.Coprime.dvd_of_dvd_mul_left g h1)
 ·left;have:p∣a.natAbs:=by rw[<- g];exact Nat.gcd_dvd_right _ _
  exact G4.2 this
theorem S0(g:LI)(b:Int)(k:LI)(i:Nat):(BQ g (b::k)).getD i 0=b*g.getD i 0+(Ce 1 (BQ g k)).getD i 0:=by
 have h:=DB (p:=BQ g (b::k)) (q:=Du (Ay b g) (Ce 1 (BQ g k))) (fun x=>by
  rw[Bf,BM,A0,CF,Bf];simp only[V,A2,CE];grind) i
 rw[h,CX,AR]
theorem Rl{p:Nat}(hp:∀ d,d∣p->d=1\/d=p):∀ (g k:LI),(∀ i,(p:Int)∣(BQ g k).getD i 0)->(¬ ∀ i,(p:Int)∣g.getD i 0)->∀ i,(p:Int)∣k.getD i 0
 | [],k,_,h=>absurd (fun i=>by simp) h
 | a::g,k,h,hn=>by
  by_cases ha:(p:Int)∣a
  ·refine Rl hp g k (fun i => ?_) (fun h2=>hn fun i => ?_)
   ·have h1:=h (i+1);rw[EU,Cj,if_pos (by omega)] at h1;exact (Afg (P3 ha (RE _ _))).1 h1
   ·cases i with
    | zero=>simpa using ha
    | succ i=>simpa using h2 i
  ·clear hn;induction k with
   | nil=>intro i;simp
   | cons b k ih =>
    have h0:=h 0;rw[EU,Cj,if_neg (by omega),B5] at h0;have hb:(p:Int)∣b:=by
     rcases nU hp h0 with g1 | g1
     ·exact absurd g1 ha
     ·simpa using g1
    have h2:=ih (fun i=>by
     have h1:=h (i+1);rw[S0,Cj,if_pos (by omega)] at h1;exact (Afg (P3 hb (RE _ _))).1 h1)
    intro i;cases i with
    | zero=>simpa using hb
    | succ i=>simpa using h2 i
theorem A6c{g:LI}(hg:AQ g=1):∀ (c:Nat) (k:LI),0<c->(∀ i,(c:Int)∣(BQ g k).getD i 0)->∀ i,(c:Int)∣k.getD i 0:=by
 intro c;induction c using TN with
 | ind c ih =>
  intro k hc h;by_cases h1:c=1
  ·intro i;rw[h1];exact Int.one_dvd _
  ·obtain⟨p,p1,⟨d,hd⟩,p3⟩:=nT c (by omega);have hd0:0<d:=by
    rcases FJ d with g | g
    ·rw[g,aD] at hd;omega
    ·exact g
   have hdc:d<c:=by rw[hd];exact (Nat.lt_mul_iff_one_lt_left hd0).2 p1
   have hpk:=Rl p3 g k (fun i=>P3 ⟨(d:Int),by rw[hd];push_cast;rfl⟩ (h i)) (fun h2=>by
    have:=(Kt p g).2 h2;rw[hg] at this;have:=Rf (by decide) this;omega)
   have hk:Ay (p:Int) (k.map fun x=>x / (p:Int))=k:=by
    apply Kr (by simp[Ay]);intro i;rw[AR];have e:(k.map fun x=>x / (p:Int)).getD i 0=k.getD i 0 / (p:Int):=by
     simp only[Z,Ch];cases k[i]? <;> simp
    rw[e];exact IC (hpk i)
   generalize k.map (fun x=>x / (p:Int))=k1 at hk;subst hk;have h3:=ih d hdc k1 hd0 (fun i=>by
    have h2:=h i;have e:(BQ g (Ay (p:Int) k1)).getD i 0=(p:Int)*(BQ g k1).getD i 0:=by
     rw[<- AR];exact DB (fun x=>by rw[Bf,A0,A0,Bf];grind) i
    rw[e,hd,CQ] at h2;exact Int.dvd_of_mul_dvd_mul_left (by omega) h2)
   intro i;rw[AR,hd,CQ];exact Int.mul_dvd_mul_left _ (h3 i)
def Oy:LI->Int->LI
 | [],_=>[]
 | _::p,a=>Du p (Ay a (Oy p a))
theorem OX:∀ (p:LI) (a x:Int),V p x-V p a=(x-a)*V (Oy p a) x
 | [],a,x=>by simp[Oy,V]
 | c::p,a,x=>by
  have ih:=OX p a x;simp only[Oy,V];rw[BM,A0];grind
theorem Wi:∀ (p:LI) (a:Int),(Oy p a).length<=p.length-1
 | [],a=>by simp[Oy]
 | c::p,a=>by
  have ih:=Wi p a;have:=Sr p (Ay a (Oy p a));rw[Bc] at this;simp only[Oy,Bv];omega
theorem Y0(p:LI)(a:Int)(i:Nat):p.getD i 0=(V p a::Oy p a).getD i 0-a*(Oy p a).getD i 0:=by
 have h:=DB (p:=p) (q:=Mj (V p a::Oy p a) (Ay a (Oy p a))) (fun x=>by
  rw[FA,A0];simp only[V];have:=OX p a x;grind) i
 rw[h,P_,AR]
theorem Wj:∀ (n:Nat) (p:LI) (l:LI),p.length<=n->l.Nodup->(∀ x∈l,V p x=0)->n<=l.length->∀ i,p.getD i 0=0:=by
 intro n;induction n with
 | zero =>
  intro p l h _ _ _ i;rw[A9 (by omega:p.length=0)];simp
 | succ n ih =>
  intro p l h1 h2 h3 h4 i;cases l with
  | nil=>simp at h4
  | cons a l =>
   have ha:=h3 a By;have hq:=ih (Oy p a) l (by have:=Wi p a;omega) (MZ.1 h2).2 (fun x hx=>by
    have h5:=OX p a x;rw[ha,h3 x (Bi _ hx)] at h5;rcases KR.1 (h5.symm.trans (by omega)) with g | g
    ·have hxa:x=a:=by omega
     subst hxa;exact absurd hx (MZ.1 h2).1
    ·exact g) (by simp at h4;omega)
   rw[Y0 p a i,ha,hq i];cases i with
   | zero=>simp
   | succ i=>simpa using hq i
theorem T3{R:Nat}:∀ (n:Nat) (g:LI) (l:LI) (M:Nat),g.length<=n+1->l.Nodup->l.length=n+1->(∀ x∈l,x.natAbs<=R/\(V g x).natAbs<=M)->(∀ x∈l,∀ y∈l,x ≠ y->1<=(x-y).natAbs)->∀ i,(g.getD i 0).natAbs<=M*(2*R+3)^n:=by
 intro n;induction n with
 | zero =>
  intro g l M h1 h2 h3 h4 _ i;cases l with
  | nil=>simp at h3
  | cons a l =>
   have ha:=h4 a By;cases g with
   | nil=>simp
   | cons c g =>
    have:g=[]:=by simpa using h1
    subst this;simp only[V,AM,B5] at ha;rw[Nat.pow_zero,I6];cases i with
    | zero=>simpa using ha.2
    | succ i=>simp
 | succ n ih =>
  intro g l M h1 h2 h3 h4 h6 i;cases l with
  | nil=>simp at h3
  | cons a l =>
   obtain⟨ha1,ha2⟩:=h4 a By;have hq:=ih (Oy g a) l (2*M) (by have:=Wi g a;omega) (MZ.1 h2).2 (by simpa using h3) (fun x hx=>by
    obtain⟨hx1,hx2⟩:=h4 x (Bi _ hx);refine⟨hx1,?_⟩;have h5:=congrArg E (OX g a x);rw[BK] at h5;have hne:x ≠ a:=by intro e;subst e;exact absurd hx (MZ.1 h2).1
    have h7:1<=(x-a).natAbs:=by omega
    have h8:=X7 (V (Oy g a) x).natAbs h7;have h9:(V g x-V g a).natAbs<=2*M:=by omega
    omega) (fun x hx y hy=>h6 x (Bi _ hx) y (Bi _ hy))
   rw[Y0 g a i];have hX:1<=(2*R+3)^n:=BS (by omega);have e1:M*(2*R+3)^(n+1)=R*(2*M*(2*R+3)^n)+2*M*(2*R+3)^n+M*(2*R+3)^n:=by rw[FM];grind
   have e2:M*1<=M*(2*R+3)^n:=AL _ hX;have b1:=hq i;have b2:(a*(Oy g a).getD i 0).natAbs<=R*(2*M*(2*R+3)^n):=by rw[BK];exact Bj ha1 b1
   have b3:((V g a::Oy g a).getD i 0).natAbs<=2*M*(2*R+3)^n+M*(2*R+3)^n:=by
    cases i with
    | zero=>simp only[I'];omega
    | succ i=>have:=hq i;simp only[Ka];omega
   rw[e1];generalize R*(2*M*(2*R+3)^n)=A at *
   generalize 2*M*(2*R+3)^n=B at *
   generalize M*(2*R+3)^n=C at *
   omega
theorem S3{R B:Nat}:∀ (t:LI) (x:Int),(∀ i,(t.getD i 0).natAbs<=B)->x.natAbs<=R->(V t x).natAbs<=B*(R+1)^t.length
 | [],x,_,_=>by simp[V]
 | c::t,x,h,hx=>by
  have ih:=S3 t x (fun i=>by simpa using h (i+1)) hx;have h0:c.natAbs<=B:=by simpa using h 0
  simp only[V,Bv];have h1:(x*V t x).natAbs<=R*(B*(R+1)^t.length):=by rw[BK];exact Bj hx ih
  have h2:B*1<=B*(R+1)^t.length:=AL _ (BS (by omega));have e:B*(R+1)^(t.length+1)=R*(B*(R+1)^t.length)+B*(R+1)^t.length:=by rw[FM];grind
  rw[e];generalize R*(B*(R+1)^t.length)=X at *
  omega
theorem Aav{t:LI}{n:Nat}(ht:Aa t ≠ [])(hl:t.length<=n+1):∃ l:LI,l.Nodup/\l.length=n+1/\∀ x∈l,x.natAbs<=2*n/\V t x ≠ 0:=by
 have hnd:((Aq (2*n+1)).map fun i:Nat=>(i:Int)).Nodup:=by
  rw[WS,List.pairwise_map];exact (WS.1 List.nodup_range).imp (fun h=>by omega)
 have hmem:∀ x∈(Aq (2*n+1)).map fun i:Nat=>(i:Int),x.natAbs<=2*n:=by
  intro x hx;obtain⟨i,hi,rfl⟩:=Em.1 hx;have:=I9.1 hi;omega
 have hlen:((Aq (2*n+1)).map fun i:Nat=>(i:Int)).length=2*n+1:=by simp
 generalize ((Aq (2*n+1)).map fun i:Nat=>(i:Int))=L at *
 have hsum:=qS (fun x=>decide (V t x=0)) (l:=L);rw[H4,H4] at hsum;have hA:(L.filter fun x=>decide (V t x=0)).length<=n:=by
  apply Np;intro h;apply ht;rw[C'];exact Wj (n+1) t (L.filter fun x=>decide (V t x=0)) hl (hnd.filter _) (fun x hx=>by simpa using (IE.1 hx).2) (by omega)
 refine⟨(L.filter fun x=>decide ¬ (B (V t x=0))=true).take (n+1),(hnd.filter _).sublist (A7d _ _),?_,?_⟩
 ·rw[AB];omega
 ·intro x hx;obtain⟨h1,h2⟩:=IE.1 (C3 hx);exact⟨hmem x h1,by simpa using h2⟩
theorem Wk{t g k:LI}{K:Nat}(ht:Aa t ≠ [])(hl:t.length<=9)(hg:g.length<=9)(hK:Kb K t)(h:∀ x,V t x=V g x*V k x):Kb (K+3) g:=by
 obtain⟨l,l1,l2,l3⟩:=Aav (n:=8) ht hl;have hb:∀ i,(t.getD i 0).natAbs<=4294967296^K:=fun i=>WN (hK i);have h1:=T3 (R:=16) 8 g l (4294967296^K*17^9) hg l1 l2 (fun x hx=>by
  obtain⟨a,b⟩:=l3 x hx;refine⟨a,?_⟩;have h2:=S3 (R:=16) t x hb a;have h3:=congrArg E (h x);rw[BK] at h3;have h4:1<=(V k x).natAbs:=by
   rcases FJ (V k x).natAbs with g | g
   ·rw[g,aD] at h3;omega
   ·exact g
  have h5:=BP (V g x).natAbs h4;have h6:4294967296^K*17^t.length<=4294967296^K*17^9:=AL _ (BF (by decide) hl);exact Be (Be h5 (Nat.le_of_eq h3.symm)) (Be h2 h6)) (fun x _ y _ hne=>by omega)
 intro i;have h2:=h1 i;unfold Bm;refine Dt h2 ?_;rw[EQ,De];exact Nat.mul_lt_mul_of_pos_left (by decide) (BS (by decide))
theorem T4{t g k:LI}{c:Int}(hc:c ≠ 0)(hg:AQ g=1)(h:∀ x,c*V t x=V g x*V k x):∃ k',∀ x,V t x=V g x*V k' x:=by
 have h1:=DB (p:=BQ g k) (q:=Ay c t) (fun x=>by rw[Bf,A0];exact (h x).symm);have h2:=A6c hg c.natAbs k (by omega) (fun i=>by rw[h1,AR];exact P3 (A0x.2 (Int.dvd_refl _)) (RE _ _));have hk:Ay c (k.map fun x=>x / c)=k:=by
  apply Kr (by simp[Ay]);intro i;rw[AR];have e:(k.map fun x=>x / c).getD i 0=k.getD i 0 / c:=by
   simp only[Z,Ch];cases k[i]? <;> simp
  rw[e];exact IC (A0x.1 (h2 i))
 refine⟨k.map fun x=>x / c,fun x => ?_⟩;have h3:=h x;rw[<- hk,A0] at h3;apply I2 hc;rw[h3];grind
theorem Rm{t g k:LI}{c:Int}{K:Nat}(hc:c ≠ 0)(hg:AQ g=1)(ht:Aa t ≠ [])(hl:t.length<=9)(hgl:g.length<=9)(hK:Kb K t)(h:∀ x,c*V t x=V g x*V k x):Kb (K+3) g:=by
 obtain⟨k',hk⟩:=T4 hc hg h;exact Wk ht hl hgl hK hk
def Dv(g t:LI):Prop:=∃ (c:Int) (k:LI),c ≠ 0/\∀ x,c*V t x=V g x*V k x
theorem Dv.refl(g:LI):Dv g g:=⟨1,[1],by decide,fun x=>by simp [V]⟩
theorem Dv.zero(g:LI):Dv g []:=⟨1,[],by decide,fun x=>by simp [V]⟩
theorem Mo{g s t r:LI}{m:Int}(u v:LI)(hm:m ≠ 0)(h1:Dv g s)(h2:Dv g t)(h:∀ x,m*V r x=V u x*V s x+V v x*V t x):Dv g r:=by
 obtain⟨c,k,hc,hk⟩:=h1;obtain⟨d,l,hd,hl⟩:=h2;refine⟨c*d*m,Du (Ay d (BQ u k)) (Ay c (BQ v l)),BW (BW hc hd) hm,fun x => ?_⟩;rw[BM,A0,A0,Bf,Bf];have a:=hk x;have b:=hl x;have e:=h x;rw[AH,e];generalize V s x=s at *
 generalize V t x=t at *
 generalize V g x=g at *
 generalize V k x=k at *
 generalize V l x=l at *
 generalize V u x=u at *
 generalize V v x=v at *
 have e1:c*d*(u*s+v*t)=d*u*(c*s)+c*v*(d*t):=by grind
 rw[e1,a,b];grind
theorem Dv.scaled{g s r:LI}{m n:Int}(hm:m ≠ 0)(h1:Dv g s)(h:∀ x,m*V r x=n*V s x):Dv g r :=
 Mo [n] [] hm h1 h1 fun x=>by rw[h x];simp[V]
theorem Dv.left{g f t:LI}{m n:Int}(_:m ≠ 0)(hn:n ≠ 0)(h1:Dv g t)(h:∀ x,m*V f x=n*V g x):Dv f t:=by
 obtain⟨c,k,hc,hk⟩:=h1;refine⟨n*c,Ay m k,BW hn hc,fun x => ?_⟩;have a:=hk x;have b:=h x;rw[A0];have e1:n*c*V t x=n*(c*V t x):=by grind
 rw[e1,a];have e2:n*(V g x*V k x)=(n*V g x)*V k x:=by grind
 rw[e2,<- b];grind
theorem Xv{g s:LI}(t:LI)(h:Dv g s){r:LI}(hr:∀ x,V r x=V s x*V t x):Dv g r :=
 Mo (m:=1) t [] (by decide) h h fun x=>by rw[hr x];simp[V];grind
theorem Fb{p:LI}(h:BZ p)(h0:p ≠ []):Aa p ≠ []:=by rw [h];exact h0
theorem Oz{p q:LI}(hp:Aa p ≠ [])(hq:Aa q ≠ []):(Aa (BQ p q)).length=(Aa p).length+(Aa q).length-1:=by
 have e:Aa (BQ p q)=Aa (BQ (Aa p) (Aa q)):=HL fun x=>by rw[Bf,Bf,DM,DM]
 rw[e];have lp:=HM p;have lq:=HM q;generalize Aa p=P at *
 generalize Aa q=Q at *
 have h1:=An.2 hp;have h2:=An.2 hq;obtain⟨t1,t2⟩:=OW P Q hp hq;have t3:(BQ P Q).getD (P.length+Q.length-2) 0 ≠ 0:=by rw[t1];exact BW (E6 lp hp) (E6 lq hq)
 rw[VS];have a1:¬ (BQ P Q).length<=P.length+Q.length-2:=fun h=>t3 (Bw h);have a2:¬ P.length+Q.length-1<(BQ P Q).length:=fun h=>by
  have hne:BQ P Q ≠ []:=by intro h0;rw[h0] at h;simp at h
  exact E6 (show BZ (BQ P Q) from VS P Q) hne (t2 _ (by omega))
 omega
theorem M'{p q:LI}(hp:Aa p ≠ [])(h:∀ x,V p x*V q x=0):∀ x,V q x=0:=by
 intro x;by_cases hq:Aa q=[]
 ·exact En hq x
 ·have h1:=Oz hp hq;have h2:Aa (BQ p q)=Aa []:=HL fun x=>by rw[Bf,h x];rfl
  rw[h2] at h1;have:=An.2 hp;have:=An.2 hq;have h0:(Aa []).length=0:=rfl;rw[h0] at h1;omega
theorem Wl{p:LI}(hp:Aa p ≠ [])(q r:LI)(h:∀ x,V p x*V q x=V p x*V r x):∀ x,V q x=V r x:=by
 intro x;have:=M' (q:=Mj q r) hp (fun x=>by rw[FA,Hu,h x];omega) x;rw[FA] at this;omega
theorem Dv.length{g t:LI}(h:Dv g t)(ht:Aa t ≠ []):(Aa g).length<=(Aa t).length/\Aa g ≠ []:=by
 obtain⟨c,k,hc,hk⟩:=h;have e:Aa (Ay c t)=Aa (BQ g k):=HL fun x=>by rw[A0,Bf];exact hk x
 rw[Lo hc] at e;have e2:=congrArg Bh e;rw[Bc] at e2;have ht1:=An.2 ht;by_cases hg:Aa g=[]
 ·have:Aa (BQ g k)=Aa []:=HL fun x=>by rw[Bf,En hg];simp[V]
  have h0:(Aa []).length=0:=rfl;rw[this,h0] at e2;omega
 ·by_cases hk0:Aa k=[]
  ·have:Aa (BQ g k)=Aa []:=HL fun x=>by rw[Bf,En hk0];simp[V]
   have h0:(Aa []).length=0:=rfl;rw[this,h0] at e2;omega
  ·rw[Oz hg hk0] at e2;have:=An.2 hk0;exact⟨by omega,hg⟩
def HO(g s t:LI):Prop:=Dv g s/\Dv g t/\∃ (c:Int) (u v:LI),c ≠ 0/\∀ x,c*V g x=V u x*V s x+V v x*V t x
theorem HO.comm{g s t:LI}(h:HO g s t):HO g t s:=by
 obtain⟨a,b,c,u,v,hc,h⟩:=h;exact⟨b,a,c,v,u,hc,fun x=>by rw[h x];omega⟩
theorem Wm(s:LI):HO s s []:=⟨Dv.refl s,Dv.zero s,1,[1],[],by decide,fun x=>by simp [V]⟩
theorem HO.step{g r d e q:LI}{a m:Int}(ha:a ≠ 0)(hm:m ≠ 0)(hr:∀ x,a*V r x=V q x*V d x+m*V e x)(h:HO g d e):HO g r d:=by
 obtain⟨h1,h2,c,u,v,hc,h⟩:=h;refine⟨Mo q [m] ha h1 h2 (fun x=>by rw[hr x];simp[V]),h1,c*m,Ay a v,Mj (Ay m u) (BQ v q),BW hc hm,fun x => ?_⟩;have e1:=hr x;have e2:=h x;rw[A0,FA,A0,Bf];generalize V g x=g at *
 generalize V d x=d at *
 generalize V e x=e at *
 generalize V r x=r at *
 generalize V q x=q at *
 generalize V u x=u at *
 generalize V v x=v at *
 have e3:c*m*g=m*(c*g):=by grind
 rw[e3,e2];have e4:a*v*r=v*(a*r):=by grind
 rw[e4,e1];grind
theorem HO.scaled{g s t s' t':LI}{m n k l:Int}(hm:m ≠ 0)(hn:n ≠ 0)(hk:k ≠ 0)(hl:l ≠ 0)(h1:∀ x,m*V s' x=n*V s x)(h2:∀ x,k*V t' x=l*V t x)(h:HO g s t):HO g s' t':=by
 obtain⟨a,b,c,u,v,hc,h⟩:=h;refine⟨a.scaled hm h1,b.scaled hk h2,c*(n*l),Ay (m*l) u,Ay (k*n) v,BW hc (BW hn hl),fun x => ?_⟩;have e1:=h1 x;have e2:=h2 x;have e3:=h x;rw[A0,A0];generalize V g x=g at *
 generalize V s x=s at *
 generalize V t x=t at *
 generalize V s' x=s' at *
 generalize V t' x=t' at *
 generalize V u x=u at *
 generalize V v x=v at *
 have e4:c*(n*l)*g=n*l*(c*g):=by grind
 rw[e4,e3];have e5:m*l*u*s'=l*u*(m*s'):=by grind
 have e6:k*n*v*t'=n*v*(k*t'):=by grind
 rw[e5,e6,e1,e2];grind
theorem HO.gscaled{g g' s t:LI}{m n:Int}(hm:m ≠ 0)(hn:n ≠ 0)(h1:∀ x,m*V g' x=n*V g x)(h:HO g s t):HO g' s t:=by
 obtain⟨a,b,c,u,v,hc,h⟩:=h;refine⟨a.left hm hn h1,b.left hm hn h1,c*m,Ay n u,Ay n v,BW hc hm,fun x => ?_⟩;have e1:=h1 x;have e2:=h x;rw[A0,A0,AH,e1];have e3:c*(n*V g x)=n*(c*V g x):=by grind
 rw[e3,e2];grind
theorem FI(p:LI):∃ m:Int,m ≠ 0/\∀ x,V p x=m*V (prim p) x:=by
 by_cases h:Aa p=[]
 ·refine⟨1,by decide,fun x => ?_⟩;rw[En h,Ee.2 (C'.1 h)];rfl
 ·have:=IQ h;refine⟨(AQ p:Int),by omega,fun x => ?_⟩;rw[<- A0,Lp,DM]
theorem fB{r d:LI}(hl:d.length<=r.length)(ht:w d ≠ 0):∃ (a m:Int) (q:LI),a ≠ 0/\m ≠ 0/\∀ x,a*V r x=V q x*V d x+m*V (DH r d) x:=by
 obtain⟨m,hm,h⟩:=FI (C9 r d ((w d).natAbs:Int) (sg (w d)*w r) r.length);refine⟨((w d).natAbs:Int),m,Ce (r.length-d.length) [sg (w d)*w r],by omega,hm,fun x => ?_⟩;have h1:=h x;rw[Qi hl] at h1;have e:V (DH r d) x=V (prim (C9 r d ((w d).natAbs:Int) (sg (w d)*w r) r.length)) x:=rfl;rw[e,<- h1,CF];simp only[V];grind
theorem T5{d:LI}(ht:w d ≠ 0):∀ (f:Nat) (r:LI),∃ (a m:Int) (q:LI),a ≠ 0/\m ≠ 0/\∀ x,a*V r x=V q x*V d x+m*V (Eb f r d) x:=by
 intro f;induction f with
 | zero=>intro r;exact⟨1,1,[],by decide,by decide,fun x=>by simp[V,Eb]⟩
 | succ f ih =>
  intro r;simp only[Eb];split
  ·rename_i hl;obtain⟨a,m,q,ha,hm,h⟩:=fB hl ht;obtain⟨b,n,s,hb,hn,g⟩:=ih (DH r d);refine⟨b*a,m*n,Du (Ay b q) (Ay m s),BW hb ha,BW hm hn,fun x => ?_⟩;have h':=h x;have g':=g x;rw[BM,A0,A0,AH,h'];generalize V (Eb f (DH r d) d) x=z at *
   generalize V (DH r d) x=y at *
   have e:b*(V q x*V d x+m*y)=b*(V q x*V d x)+m*(b*y):=by grind
   rw[e,g'];grind
  ·exact⟨1,1,[],by decide,by decide,fun x=>by simp[V]⟩
theorem Wo:∀ (f:Nat) (x y:LI),y.length<=f->y.length<=x.length->BZ x->BZ y->HO (GW f x y) x y:=by
 intro f;induction f with
 | zero =>
  intro x y h1 _ _ _;have:y=[]:=A9 (by omega);subst this;exact Wm x
 | succ f ih =>
  intro x y h1 h2 lx ly;simp only[GW];split
  ·rename_i h;subst h;exact Wm x
  ·rename_i h;have ht:w y ≠ 0:=E6 ly h;obtain⟨r1,r2,_⟩:=Sz h (K:=sK 1 (y.map E).sum) (fun i=>by
    have h3:(y.getD i 0).natAbs<=(y.map E).sum:=by
     clear ht h h1 h2 ly ih;induction y generalizing i with
     | nil=>simp
     | cons c y ih => 
      cases i with
      | zero=>simp
      | succ i=>have:=ih i;simp at this |-;omega
    unfold Bm;have h4:(y.map E).sum<=sK 1 (y.map E).sum:=Ats _ _;exact Dt (Be h3 h4) (Ul (by decide))) x.length x (sK 1 (x.map E).sum) (Ap _) lx (fun i=>by
    have h3:(x.getD i 0).natAbs<=(x.map E).sum:=by
     clear ht h h1 h2 lx ih;induction x generalizing i with
     | nil=>simp
     | cons c y ih => 
      cases i with
      | zero=>simp
      | succ i=>have:=ih i;simp at this |-;omega
    unfold Bm;have h4:(x.map E).sum<=sK 1 (x.map E).sum:=Ats _ _;exact Dt (Be h3 h4) (Ul (by decide)))
   obtain⟨a,m,q,ha,hm,e⟩:=T5 ht x.length x;exact HO.step ha hm e (ih y (Bt x y) (by unfold Bt;omega) (by unfold Bt;omega) ly r1)
def Lt(x y:LI):LI:=if y.length<=x.length then GW y.length x y else GW x.length y x
theorem Aaw{x y:LI}(lx:BZ x)(ly:BZ y):HO (Lt x y) x y:=by
 unfold Lt;split
 ·exact Wo _ _ _ (Ap _) (by assumption) lx ly
 ·exact (Wo _ _ _ (Ap _) (by omega) ly lx).comm
theorem Wp(p:LI):∃ m:Int,m ≠ 0/\∀ x,V (z p) x=m*V p x:=by
 unfold z;split
 ·exact⟨-1,by decide,fun x=>by rw[HU];omega⟩
 ·exact⟨1,by decide,fun x=>by omega⟩
theorem Kc(p:LI):(z p).length=p.length:=by
 unfold z;split
 ·exact DR p
 ·rfl
def Di(s t:LI):LI:=z (Lt (prim s) (prim t))
theorem Ky(s t:LI):HO (Di s t) s t:=by
 have h:=Aaw (BX s) (BX t);obtain⟨m,hm,h1⟩:=FI s;obtain⟨n,hn,h2⟩:=FI t;obtain⟨k,hk,h3⟩:=Wp (Lt (prim s) (prim t));have h4:=h.scaled (s':=s) (t':=t) (m:=1) (n:=m) (k:=1) (l:=n) (by decide) hm (by decide) hn (fun x=>by rw[h1 x];omega) (fun x=>by rw[h2 x];omega);exact h4.gscaled (m:=1) (n:=k) (by decide) hk (fun x=>by unfold Di;rw[h3 x];omega)
theorem HP{p:LI}(h:BZ p):BZ (Cc p):=by
 have e:Cc p=Ay (-1) p:=by
  unfold Cc Ay;apply Gj;intro x _;omega
 rw[e];exact eO (by decide) h
theorem M_{p:LI}(h:BZ p):BZ (z p):=by
 unfold z;split
 ·exact HP h
 ·exact h
theorem Lu:∀ (f:Nat) (x y:LI),prim x=x->prim y=y->prim (GW f x y)=GW f x y:=by
 intro f;induction f with
 | zero=>intro x y h _;exact h
 | succ f ih =>
  intro x y hx hy;simp only[GW];split
  ·exact hx
  ·exact ih y _ hy (HY _ _ _ hx)
theorem Qk{x y:LI}(hx:prim x=x)(hy:prim y=y):prim (Lt x y)=Lt x y:=by
 unfold Lt;split
 ·exact Lu _ _ _ hx hy
 ·exact Lu _ _ _ hy hx
theorem Wq(p:LI):AQ (Cc p)=AQ p:=by
 have e:Cc p=Ay (-1) p:=by
  unfold Cc Ay;apply Gj;intro x _;omega
 rw[e,Ln];simp
theorem Wr(p:LI):AQ (z p)=AQ p:=by
 unfold z;split
 ·exact Wq p
 ·rfl
theorem KH(s t:LI):BZ (Di s t):=M_ (Cq (Qk (BU s) (BU t)))
theorem H9{p:LI}(h:BZ p)(hc:AQ p=1):prim p=p:=by rw [Sw hc];exact h
theorem Mp{s t:LI}(h:Aa s ≠ []):Di s t ≠ []:=by
 have:=((Ky s t).1.length h).2;intro h0;rw[h0] at this;exact this rfl
theorem nV{s t:LI}(h:Aa s ≠ []):AQ (Di s t)=1:=by
 have h1:=Mp (t:=t) h;unfold Di at *
 rw[Wr];have h2:Lt (prim s) (prim t) ≠ []:=by
  intro h0;rw[h0] at h1;exact h1 rfl
 have h3:=Qk (BU s) (BU t);rw[<- h3];exact KF (by rw[Cq h3];exact h2)
theorem Y1{p:LI}(h:BZ p)(h0:p ≠ []):0<w (z p):=by
 have h1:=E6 h h0;unfold z;split
 ·rename_i hn;unfold w at *
  rw[DR,GT];omega
 ·rename_i hn;unfold w at *;omega
theorem S4{s t:LI}(h:Aa s ≠ []):0<w (Di s t):=by
 have h1:=Mp (t:=t) h;unfold Di at *
 refine Y1 (Cq (Qk (BU s) (BU t))) ?_;intro h0;rw[h0] at h1;exact h1 rfl
theorem fD{s t:LI}{K:Nat}(h:Aa s ≠ [])(hl:s.length<=9)(hK:Kb K s):Kb (K+3) (Di s t)/\(Di s t).length<=(Aa s).length:=by
 have hg:=(Ky s t).1;have h1:=(hg.length h).1;have hle:=KH s t;rw[hle] at h1;obtain⟨c,k,hc,hk⟩:=hg;have:=Bq s;exact⟨Rm hc (nV h) h hl (by omega) hK hk,h1⟩
theorem nW{x y:LI}(h:Dv y x)(hy:BZ y)(hy0:y ≠ [])(hr:(Bt x y).length<y.length)(hlr:BZ (Bt x y)):Bt x y=[]:=by
 apply A5;intro hn;obtain⟨a,m,q,ha,hm,e⟩:=T5 (E6 hy hy0) x.length x;have h1:Dv y (Bt x y):=Mo (m:=m) [a] (Cc q) hm h (Dv.refl y) fun z=>by
  have:=e z;unfold Bt;rw[HU];simp only[V];grind
 have h2:=(h1.length (by rw[hlr];exact hn)).1;rw[hy,hlr] at h2;omega
theorem Att(y:LI):∃ K,Kb K y:=⟨(y.map E).sum,fun i=>by
 have h3:(y.getD i 0).natAbs<=(y.map E).sum:=by
  induction y generalizing i with
  | nil=>simp
  | cons c y ih => 
   cases i with
   | zero=>simp
   | succ i=>have:=ih i;simp at this |-;omega
 unfold Bm;exact Dt h3 (Ul (by decide))⟩
theorem T6{x y:LI}(hx:BZ x)(hy0:y ≠ []):BZ (Bt x y)/\(Bt x y).length<y.length:=by
 obtain⟨K,hK⟩:=Att y;obtain⟨J,hJ⟩:=Att x;obtain⟨a,b,_⟩:=Sz hy0 hK x.length x J (Ap _) hx hJ;exact⟨a,b⟩
theorem Atu{s g:LI}(h:Dv g s)(hg:Aa g ≠ []):Bt (prim s) (prim g)=[]:=by
 obtain⟨m,hm,h1⟩:=FI s;obtain⟨n,hn,h2⟩:=FI g;have h3:Dv (prim g) (prim s):=(h.scaled (r:=prim s) (m:=m) (n:=1) hm fun x=>by rw[h1 x];omega).left (f:=prim g) (m:=n) (n:=1) hn (by decide) fun x=>by rw[h2 x];omega
 have hp:prim g ≠ []:=by intro h0;rw[Ee,<- C'] at h0;exact hg h0
 obtain⟨a,b⟩:=T6 (BX s) hp;exact nW h3 (BX g) hp b a
end Go.Ai
namespace Go.Proofs.YtajompaehjkgkaaGreat
open Go.Ai
set_option maxRecDepth 100000
open Go.Ai.AV renaming fresh->L,sl->H
open Go.IntKind renaming i64->O,wrap->I
open Int renaming gcd->C_,mul_comm->AA,mul_ediv_cancel'->IC,mul_neg->EV,natAbs_natCast->BD,ofNat_dvd_left->G4,toNat_natCast->R
open List renaming append_nil->L5,drop_length->JP,eq_nil_of_length_eq_zero->A9,ext_getElem?->Gg,getD_eq_getElem?_getD->Z,getElem?_append_left->AN,getElem?_append_right->AT,getElem?_drop->Bu,getElem?_eq_getElem->Af,getElem?_map->Ch,getElem?_set_ne->FO,getElem?_set_self->WP,getElem?_take_of_lt->B1,length_append->AX,length_drop->Ep,length_map->N,length_pos_iff->An,length_set->A',length_take->AB,set_set->RD,take_of_length_le->Er
open Nat renaming add_mul->D',le_mul_of_pos_right->BP,le_of_dvd->Rf,le_refl->Ap,le_trans->Be,mul_comm->CS,mul_le_mul_left->AL,mul_le_mul_right->AF,mul_pos->Es,mul_succ->Pf,one_mul->Fk,pow_pos->BS,sub_add_cancel->Lq,zero_le->Ba,zero_mul->SX
def FC(E rs:List Rn)(i:Nat):List Rn:=E.take i++rs.drop i
theorem Na(E rs:List Rn):FC E rs 0=rs:=by simp [FC]
theorem Nb{E rs:List Rn}(h:E.length=rs.length):FC E rs rs.length=E:=by
 unfold FC;rw[JP,L5,Er (by omega)]
theorem Ho{E rs:List Rn}(h:E.length=rs.length)(i:Nat):(FC E rs i).length=rs.length:=by
 unfold FC;rw[AX,AB,Ep];omega
theorem Mq{E rs:List Rn}(h:E.length=rs.length){i:Nat}(hi:i<rs.length):(FC E rs i).getD i z0=rs.getD i z0:=by
 unfold FC;rw[Z,Z,AT (by rw[AB];omega),AB,Bu];congr 2;omega
theorem Mr{E rs:List Rn}(h:E.length=rs.length){i:Nat}(hi:i<rs.length):(FC E rs i).set i (E.getD i z0)=FC E rs (i+1):=by
 have hpi:E[i]? = some (E.getD i z0):=by rw[Z,Af (by omega)];rfl
 apply Gg;intro t;have hl:=Ho h i;unfold FC at *
 rcases Nat.lt_trichotomy t i with g | g | g
 ·rw[FO (by omega),AN (by rw[AB];omega),AN (by rw[AB];omega),B1 g,B1 (by omega)]
 ·subst g;rw[WP (by omega),AN (by rw[AB];omega),B1 (by omega),hpi]
 ·rw[FO (by omega),AT (by rw[AB];omega),AT (by rw[AB];omega),AB,AB,Bu,Bu];congr 1;omega
theorem Gf(p:LI)(i:Nat):P ((p.map cn).getD i z0)=p.getD i 0:=by rw [<- C7,v]
theorem Fh{p:LI}{i:Nat}(h:i<p.length):(p.map cn).getD i z0=cn (p.getD i 0):=by
 rw[Z,Ch,Z,Af h];rfl
theorem AW{K:Nat}{p:LI}(h:Kb K p):∀ r∈p.map cn,AO K r:=Kp h.mem
theorem Y2{rs:List Rn}{i:Nat}{r:Rn}(h:i<rs.length):(rs.set i r).getD i z0=r:=by
 simp[Z,h]
theorem Ms{x y:Rn}{J K:Nat}(hx:AO J x)(hy:AO K y)(h:J+K<=1048576):RQ 112 [As x,As y] (Ah (P x*P y)):=Su hx.1 hy.1 (by have:=hx.2;have:=hy.2;omega)
theorem fE{x y:Rn}{J K:Nat}(hx:AO J x)(hy:AO K y)(h:J<1048576)(h2:K<1048576):RQ 127 [As x,As y] (Ah (P x-P y)):=xU hx.1 hy.1 (by have:=hx.2;omega) (by have:=hy.2;omega)
section
variable {p d:LI} {J Kd:Nat}
theorem Ws{a b:Int}{t:Rn}(hp:Kb J p)(hd:Kb Kd d)(ha:Bm Kd a)(hb:Bm J b)(hS:J+Kd+1<1048576)(hl:d.length<=p.length)(hN:p.length<=1048576) :
  Ar (.loop K_) (GG (d.map cn) p.length (p.map cn) t (cn a) (cn b) ((p.length-d.length:Nat):Int) (p.length:Nat) 0) (.exit 2)
   (GG (d.map cn) p.length ((C9 p d a b p.length).map cn) t (cn a) (cn b) ((p.length-d.length:Nat):Int) (p.length:Nat) (p.length:Nat)):=by
 have hE:((C9 p d a b p.length).map cn).length=(p.map cn).length:=by rw[N,N,El]
 have hpl:(p.map cn).length=p.length:=N ..;have h:=Cv.up (prog:=AY) (c:=K_) (ex := .exit 2) (fin:=GG (d.map cn) p.length ((C9 p d a b p.length).map cn) t (cn a) (cn b) ((p.length-d.length:Nat):Int) (p.length:Nat) (p.length:Nat))
  (fun i=>GG (d.map cn) p.length (FC ((C9 p d a b p.length).map cn) (p.map cn) i) t (cn a) (cn b) ((p.length-d.length:Nat):Int) (p.length:Nat) (i:Nat)) p.length (by nofun) ?_ ?_ 0 (Ba _)
 ·rw[Na] at h;exact h
 ·intro i hi;have ei:I O ((i:Int)+1)=((i+1:Nat):Int):=by rw[Bl (by omega) (by omega)];omega
  have hml:=Ho hE i;have hget:=Mq hE (i:=i) (by omega);have hEi:((C9 p d a b p.length).map cn).getD i z0=cn ((C9 p d a b p.length).getD i 0):=Fh (by rw[El];exact hi);have hest:=Gz p d a b p.length i;rw[if_pos hi] at hest;have hset:=Mr hE (i:=i) (by omega);rw[hEi] at hset;have gp:=Bg (AW hp) i;have ga:=BG ha;have gb:=BG hb;have vi:=Gf p i;generalize FC ((C9 p d a b p.length).map cn) (p.map cn) i=M at *
  by_cases hat:p.length-d.length<=i
  ·rw[if_pos hat] at hest;have ea:I O ((i:Int)-((p.length-d.length:Nat):Int))=((i-(p.length-d.length):Nat):Int):=by rw[Bl (by omega) (by omega)];omega
   have gq:=Bg (AW hd) (i-(p.length-d.length));have vq:=Gf d (i-(p.length-d.length));have m1:=Ms gp ga (by omega);have m2:=Ms gb gq (by omega);have f1:Bm (J+Kd) (P ((p.map cn).getD i z0)*P (cn a)):=gp.fits.mul (by rw[u];exact ha);have f2:Bm (J+Kd) (P (cn b)*P ((d.map cn).getD (i-(p.length-d.length)) z0)):=Bm.mul (by rw[u];exact hb) gq.fits;have m3:=fE (BG f1) (BG f2) (by omega) (by omega);rw[u (P (cn b)*P ((d.map cn).getD (i-(p.length-d.length)) z0))] at m3;have k:=Aam (d.map cn) p.length M t (cn a) (cn b) ((p.length-d.length:Nat):Int) (p.length:Nat) (i:Nat) (by simp;omega) (by rw[decide_eq_true_eq];omega) (by omega) (by omega) (by rw[A'];omega) (by rw[ea,N];omega)
    (by rw[R,hget];exact m1) (by rw[ea,R];exact m2) (by
     simp only[ea,R,hget];rw[Y2 (by omega)];exact m3)
   refine k.to rfl ?_;simp only[ea,ei,R,hget];rw[Y2 (by omega),RD,u (P ((p.map cn).getD i z0)*P (cn a)),vi,vq,u,u,AA (p.getD i 0) a,<- hest];rw[hset]
  ·rw[if_neg hat] at hest;have m1:=Ms gp ga (by omega);have k:=Aan (d.map cn) p.length M t (cn a) (cn b) ((p.length-d.length:Nat):Int) (p.length:Nat) (i:Nat) (by simp;omega) (by rw[decide_eq_false_iff_not];omega) (by omega) (by omega) (by rw[R,hget];exact m1);refine k.to rfl ?_;simp only[ei,R,hget];rw[vi,u,AA (p.getD i 0) a,<- hest,hset]
 ·rw[show FC ((C9 p d a b p.length).map cn) (p.map cn) p.length=(C9 p d a b p.length).map cn by have h:=Nb hE;rw[hpl] at h;exact h];exact Aao (d.map cn) p.length _ t _ _ _ _ _ (by simp)
theorem A0y{a b:Int}(h:a ≠ 0):0<C_ a b:=by
 rw[C_];exact Nat.gcd_pos_of_pos_left _ (by omega)
theorem Aax(hp:Kb J p)(hd:Kb Kd d)(hS:J+Kd+1<1048576)(hd0:d ≠ [])(ht:w d ≠ 0)(hl:d.length<=p.length)(hN:p.length<=1048576) :
  Ar PK (JJ (d.map cn) p.length (p.map cn) (cn (w d))) .norm (JJ (d.map cn) (DH p d).length ((DH p d).map cn) (cn (w d))):=by
 have hdl:=An.2 hd0;have e1:I O ((p.length:Int)-1)=((p.length-1:Nat):Int):=by rw[Bl (by omega) (by omega)];omega
 have e2:I O ((p.length:Int)-(((d.map cn).length:Nat):Int))=((p.length-d.length:Nat):Int):=by rw[N,Bl (by omega) (by omega)];omega
 have gt:=BG (EB hd);have gl:=Bg (AW hp) (p.length-1);have vl:P ((p.map cn).getD (p.length-1) z0)=w p:=Gf p (p.length-1);have hgp:=A0y (a:=w d) (b:=w p) ht;have hgcd:=Yt (na:=(cn (w d)).1) (nb:=((p.map cn).getD (p.length-1) z0).1) gt.1 gl.1 (by have:=gt.2;omega) (by have:=gl.2;omega);rw[show rv (cn (w d)).1 (cn (w d)).2=w d from u _,show rv ((p.map cn).getD (p.length-1) z0).1 ((p.map cn).getD (p.length-1) z0).2=w p from vl] at hgcd;have hd1:((C_ (w d) (w p):Nat):Int)∣w d:=Int.gcd_dvd_left ..;have hd2:((C_ (w d) (w p):Nat):Int)∣w p:=Int.gcd_dvd_right ..;have hd3:((C_ (w d) (w p):Nat):Int)∣(((w d).natAbs:Nat):Int):=Int.dvd_natAbs.2 hd1;have hgle:Bm Kd ((C_ (w d) (w p):Nat):Int):=by
  have:=EB hd;unfold Bm at *
  rw[BD];have:=Rf (by omega) (G4.1 hd1);omega
 have gg:=BG hgle;have habs:=St (neg:=(cn (w d)).1) gt.1 (by have:=gt.2;omega);rw[show rv (cn (w d)).1 (cn (w d)).2=w d from u _] at habs;have gab:=BG (OV (EB hd));have q1:=OT (na:=(cn (((w d).natAbs:Nat):Int)).1) (nb:=(cn ((C_ (w d) (w p):Nat):Int)).1) gab.1 gg.1 (by rw[show rv (cn ((C_ (w d) (w p):Nat):Int)).1 (cn ((C_ (w d) (w p):Nat):Int)).2=(C_ (w d) (w p):Nat) from u _];omega) (by have:=gab.2;omega) (by have:=gg.2;omega);rw[show rv (cn ((C_ (w d) (w p):Nat):Int)).1 (cn ((C_ (w d) (w p):Nat):Int)).2=(C_ (w d) (w p):Nat) from u _,show rv (cn (((w d).natAbs:Nat):Int)).1 (cn (((w d).natAbs:Nat):Int)).2=((w d).natAbs:Nat) from u _] at q1;have q2:=OT (na:=((p.map cn).getD (p.length-1) z0).1) (nb:=(cn ((C_ (w d) (w p):Nat):Int)).1) gl.1 gg.1 (by rw[show rv (cn ((C_ (w d) (w p):Nat):Int)).1 (cn ((C_ (w d) (w p):Nat):Int)).2=(C_ (w d) (w p):Nat) from u _];omega) (by have:=gl.2;omega) (by have:=gg.2;omega);rw[show rv (cn ((C_ (w d) (w p):Nat):Int)).1 (cn ((C_ (w d) (w p):Nat):Int)).2=(C_ (w d) (w p):Nat) from u _,show rv ((p.map cn).getD (p.length-1) z0).1 ((p.map cn).getD (p.length-1) z0).2=w p from vl] at q2;have hG:(0:Int)<((C_ (w d) (w p):Nat):Int):=by omega
 have x1:=IC hd3;have x2:=IC hd2;rw[Ls hG hd3] at q1;rw[Ls hG hd2] at q2;have hsg:=MT (neg:=(cn (w d)).1) gt.1 (by have:=gt.2;omega);rw[show rv (cn (w d)).1 (cn (w d)).2=w d from u _] at hsg;have fa:Bm Kd ((((w d).natAbs:Nat):Int) / ((C_ (w d) (w p):Nat):Int)):=by
  rcases Sx (OV (EB hd)) (C_ (w d) (w p)) with g | g
  ·exact g
  ·exact absurd hd3 g
 have fb:Bm J (w p / ((C_ (w d) (w p):Nat):Int)):=by
  rcases Sx (EB hp) (C_ (w d) (w p)) with g | g
  ·exact g
  ·exact absurd hd2 g
 generalize hGd:((C_ (w d) (w p):Nat):Int)=G at *
 generalize hx:(((w d).natAbs:Nat):Int) / G=x at *
 generalize hy:w p / G=y at *
 have pst:∀ b:Int,G*b=sg (w d)*w p->DH p d=prim (C9 p d x b p.length):=by
  intro b hb;have h:=T0 (r:=p) (d:=d) (c:=1) (g:=G) (a:=x) (b:=b) (by decide) hG x1 hb;rwa [show Ay 1 d=d by unfold Ay;simp] at h
 have fin:∀ b:Int,G*b=sg (w d)*w p->Bm J b->RQ 115 [H p.length (pc ((C9 p d x b p.length).map cn))] (L 2 ((DH p d).map cn).length (pc ((DH p d).map cn))):=by
  intro b hb fb';have hK:=Rh hp hd fa fb' p.length;have h:=Eo (rs:=(C9 p d x b p.length).map cn) (AW hK) (by omega) (by rw[N,El];exact hN);(first|rw[v,<- pst b hb,N,El] at h|(rw[v,<- pst b hb] at h;unfold sL at h;rw[N,El] at h));rw[N];exact h
 by_cases hneg:w d<0
 ·have hng:=Yk (neg:=(cn y).1) (xs:=(cn y).2) (BI _) (by have:=fb.len;rw[HH];omega);rw[show rv (cn y).1 (cn y).2=y from u _] at hng;have hb:G * -y=sg (w d)*w p:=by unfold sg;rw[if_pos hneg,EV,x2];omega
  have hin:=Ws (t:=cn (w d)) hp hd fa fb.neg hS hl hN;have k:=Atm (d.map cn) p.length (p.map cn) (cn (w d)) _ _ _ _ G _ x y (-y) _ _ (BJ (w d)) _ _ _ (by rw[decide_eq_true_eq,N];omega) (by unfold BJ;rw[if_pos hneg];rfl) (by rw[e1];omega) (by rw[N]) (by rw[e1,R];exact hgcd) habs q1 (by rw[e1,R];exact q2) hsg hng (by rw[e2];exact hin) (fin (-y) hb fb.neg);(first|rw[N] at k|(unfold sL at k;rw[N] at k));exact k
 ·have hb:G*y=sg (w d)*w p:=by unfold sg;rw[if_neg hneg,x2];omega
  have hin:=Ws (t:=cn (w d)) hp hd fa fb hS hl hN;have k:=Atn (d.map cn) p.length (p.map cn) (cn (w d)) _ _ _ _ G _ x y _ _ (BJ (w d)) _ _ _ (by rw[decide_eq_true_eq,N];omega) (by unfold BJ;rw[if_neg hneg];split <;> rfl) (by rw[e1];omega) (by rw[N]) (by rw[e1,R];exact hgcd) habs q1 (by rw[e1,R];exact q2) hsg (by rw[e2];exact hin) (fin y hb fb);(first|rw[N] at k|(unfold sL at k;rw[N] at k));exact k
end
theorem Aay{d:LI}{Kd:Nat}(hd:Kb Kd d)(hd0:d ≠ [])(ht:w d ≠ 0):∀ (f:Nat) (p:LI) (J:Nat),p.length<=f->Kb J p->J+(p.length+1-d.length)*(Kd+1)<1048576->p.length<=1048576 ->
  Ar (.loop PK) (JJ (d.map cn) p.length (p.map cn) (cn (w d))) (.exit 0) (JJ (d.map cn) (Eb f p d).length ((Eb f p d).map cn) (cn (w d))):=by
 have hdl:=An.2 hd0;intro f;induction f with
 | zero =>
  intro p J hf _ _ _;exact Ao (eY (d.map cn) p.length (p.map cn) (cn (w d)) (by rw[decide_eq_false_iff_not,N];omega)) (by nofun)
 | succ f ih =>
  intro p J hf hJ hS hN;simp only[Eb];split
  ·rename_i hl;have hplen:=Jh hd0 hl;have e:((DH p d).length+1-d.length)+1<=p.length+1-d.length:=by omega
   have:=AF (Kd+1) e;rw[D',Fk] at this;have h1:=Aax hJ hd (by
    have h2:1*(Kd+1)<=(p.length+1-d.length)*(Kd+1):=AF _ (by omega);omega) hd0 ht hl hN
   exact Cv.loop h1 (ih (DH p d) (J+Kd+1) (by omega) (Sy hJ hd) (by omega) (by omega))
  ·rename_i hl;exact Ao (eY (d.map cn) p.length (p.map cn) (cn (w d)) (by rw[decide_eq_false_iff_not,N];omega)) (by nofun)
theorem JL{rs ss:List Rn}{J K:Nat}(hr:∀ r∈rs,AO J r)(hs:∀ r∈ss,AO K r)(hJ:J<1048576)(hK:K<1048576)(hn:rs.length<=1048576)(hm:ss.length<=1048576)(h0:prim (Q ss) ≠ [])(hS:J+((prim (Q rs)).length+1-(prim (Q ss)).length)*(K+1)<1048576) :
  RQ 118 [sL pc rs,sL pc ss] (L 2 (Bt (prim (Q rs)) (prim (Q ss))).length (pk (Bt (prim (Q rs)) (prim (Q ss))))):=by
 have p1:=Eo hr hJ hn;have p2:=Eo hs hK hm;have k1:Kb J (prim (Q rs)):=(Iy (C1 hr)).prim;have k2:Kb K (prim (Q ss)):=(Iy (C1 hs)).prim;have l1:(prim (Q rs)).length<=rs.length:=by rw[BN];have:=Bq (Q rs);rwa [s] at this
 have l2:(prim (Q ss)).length<=ss.length:=by rw[BN];have:=Bq (Q ss);rwa [s] at this
 have hl:=An.2 h0;have ht:w (prim (Q ss)) ≠ 0:=E6 (BX _) h0;have hlp:=Aay k2 h0 ht (prim (Q rs)).length (prim (Q rs)) J (Ap _) k1 hS (by omega);have e1:I O (((((prim (Q ss)).map cn).length:Nat):Int)-1)=(((prim (Q ss)).length-1:Nat):Int):=by rw[N,Bl (by omega) (by omega)];omega
 have p1':RQ 115 [sL pc rs] (L 2 ((prim (Q rs)).map cn).length (pc ((prim (Q rs)).map cn))):=by rw[N];exact p1
 have p2':RQ 115 [sL pc ss] (L 2 ((prim (Q ss)).map cn).length (pc ((prim (Q ss)).map cn))):=by rw[N];exact p2
 have k:=Ato rs ss _ _ ((Bt (prim (Q rs)) (prim (Q ss))).map cn) (cn (w (prim (Q ss)))) (Bt (prim (Q rs)) (prim (Q ss))).length p1' p2' (by rw[e1,N];omega) (by
  rw[e1,R,Fh (show (prim (Q ss)).length-1<(prim (Q ss)).length by omega),N];exact hlp)
 exact k
theorem Y3:∀ (f:Nat) (x y:LI) (M:Nat),0<M->y.length<=f->y.length<=x.length->x.length<=1048576->prim x=x->prim y=y->Kb (M-1) x->Kb (M-1) y->M*IS x.length y.length<=500000 ->
  ∃ bs,Ar (.loop PN) (JK (x.map cn) (y.map cn)) (.exit 0) (JK ((GW f x y).map cn) bs):=by
 intro f;induction f with
 | zero =>
  intro x y M _ h1 _ _ _ _ _ _ _;have:y=[]:=A9 (by omega);subst this;exact⟨_,Ao (fA _ _ (by simp)) (by nofun)⟩
 | succ f ih =>
  intro x y M hM h1 h2 h3 px py kx ky hphi;simp only[GW];split
  ·rename_i h;subst h;exact⟨_,Ao (fA _ _ (by simp)) (by nofun)⟩
  ·rename_i h;have hyl:=An.2 h;obtain⟨r1,r2,r3⟩:=Kw hM (Cq px) h kx ky h2;have hM':0<M*(x.length-y.length+2):=Es hM (by omega);have hMle:M<=M*(x.length-y.length+2):=BP M (by omega);have hbig:M*(x.length-y.length+2)<=500000:=by
    refine Be (AL _ ?_) hphi;unfold IS;exact BP _ (BS (by decide))
   have hrem:=JL (rs:=x.map cn) (ss:=y.map cn) (AW kx) (AW ky) (by omega) (by omega) (by rw[N];exact h3) (by rw[N];omega) (by rw[v,py];exact h) (by
    rw[v,v,px,py,Lq hM,show x.length+1-y.length=x.length-y.length+1 by omega,CS _ M];have:M*(x.length-y.length+2)=M*(x.length-y.length+1)+M:=by rw[<- Pf]
    omega)
   rw[v,v,px,py] at hrem;have hrem':RQ 118 [H (x.map cn).length (pc (x.map cn)),H (y.map cn).length (pc (y.map cn))] (L 2 ((Bt x y).map cn).length (pc ((Bt x y).map cn))):=by
    have hlm:((Bt x y).map cn).length=(Bt x y).length:=N ..;rw[hlm];exact hrem
   have k:=eZ (x.map cn) (y.map cn) _ (by simp;omega) hrem';obtain⟨bs,hb⟩:=ih y (Bt x y) (M*(x.length-y.length+2)) hM' (by omega) (by omega) (by omega) py (HY _ _ _ px) (ky.mono (by omega)) r3 (Kx r2 hphi);exact⟨bs,Cv.loop k hb⟩
def Nc(f:Nat)(args:List AV)(p:LI):Prop:=RQ f args (L 2 (p.map cn).length (pc (p.map cn)))\/RQ f args (H (p.map cn).length (pc (p.map cn)))
theorem Ro{p:LI}{K:Nat}(hk:Kb K p)(hK:K<=1048576)(hN:p.length<=1048576) :
  (w p<0->RQ 155 [H (p.map cn).length (pc (p.map cn))] (L 2 ((z p).map cn).length (pc ((z p).map cn))))/\(¬ w p<0->RQ 155 [H (p.map cn).length (pc (p.map cn))] (H (p.map cn).length (pc (p.map cn)))):=by
 have h:=Wh (rs:=p.map cn) (fun r hr=>(AW hk r hr).mono hK) (by rw[N];exact hN);rw[v] at h;refine⟨fun hn => ?_,h.2⟩;have h1:=h.1 hn;have e:z p=Cc p:=by unfold z;rw[if_pos hn]
 have hl:((Cc p).map cn).length=(p.map cn).length:=by rw[N,N,DR]
 rw[e,hl];exact h1
theorem OY{p:LI}(h:¬ w p<0):z p=p:=by unfold z;rw [if_neg h]
theorem Lv:∀ (f:Nat) (x y:LI) (M:Nat),0<M->y.length<=f->y.length<=x.length->BZ x->BZ y->Kb (M-1) x->Kb (M-1) y->Kb (M*IS x.length y.length-1) (GW f x y)/\(GW f x y).length<=x.length:=by
 intro f;induction f with
 | zero =>
  intro x y M hM _ h2 _ _ kx _;refine⟨kx.mono ?_,Ap _⟩;have:M*1<=M*IS x.length y.length:=AL _ (by unfold IS;exact Es (by omega) (BS (by decide)));omega
 | succ f ih =>
  intro x y M hM h1 h2 lx ly kx ky;simp only[GW];split
  ·refine⟨kx.mono ?_,Ap _⟩;have:M*1<=M*IS x.length y.length:=AL _ (by unfold IS;exact Es (by omega) (BS (by decide)));omega
  ·rename_i h;have hyl:=An.2 h;obtain⟨r1,r2,r3⟩:=Kw hM lx h kx ky h2;have hM':0<M*(x.length-y.length+2):=Es hM (by omega);have hMle:M<=M*(x.length-y.length+2):=BP M (by omega);obtain⟨a,b⟩:=ih y (Bt x y) (M*(x.length-y.length+2)) hM' (by omega) (by omega) ly r1 (ky.mono (by omega)) r3;exact⟨a.mono (Nat.sub_le_sub_right (Kx r2 (Ap _)) 1),by omega⟩
theorem P4{rs ss:List Rn}{g:LI}{bs:List Rn}{K:Nat}(hr:∀ r∈rs,AO K r)(hs:∀ r∈ss,AO K r)(hK:K<1048576)(hn:rs.length<=1048576)(hm:ss.length<=1048576){Kg:Nat}(hg:Kb Kg g)(hKg:Kg<=1048576)(hgl:g.length<=1048576)
  (hl:Ar (.loop PN) (JK ((prim (Q rs)).map cn) ((prim (Q ss)).map cn)) (.exit 0) (JK (g.map cn) bs)) :
  Nc 135 [sL pc rs,sL pc ss] (z g):=by
 have p1:=Eo hr hK hn;have p2:=Eo hs hK hm;have p1':RQ 115 [sL pc rs] (L 2 ((prim (Q rs)).map cn).length (pc ((prim (Q rs)).map cn))):=by rw[N];exact p1
 have p2':RQ 115 [sL pc ss] (L 2 ((prim (Q ss)).map cn).length (pc ((prim (Q ss)).map cn))):=by rw[N];exact p2
 obtain⟨q1,q2⟩:=Ro hg hKg hgl;by_cases h:w g<0
 ·exact .inl (nR rs ss _ _ (g.map cn) bs _ p1' p2' hl (q1 h))
 ·rw[OY h];exact .inr (nS rs ss _ _ (g.map cn) bs p1' p2' hl (q2 h))
theorem Rp{rs ss:List Rn}{K c:Nat}(hr:∀ r∈rs,AO K r)(hs:∀ r∈ss,AO K r)(hn:rs.length<=c)(hm:ss.length<=c)(hc:c<=1048576)(hS:(K+1)*(2*3^c)<=500000) :
  Nc 135 [sL pc rs,sL pc ss] (z (Lt (prim (Q rs)) (prim (Q ss)))):=by
 have h3:0<3^c:=BS (by decide);have hK:K+1<=500000:=by
  have:(K+1)*1<=(K+1)*(2*3^c):=AL _ (by omega);omega
 have k1:Kb K (prim (Q rs)):=(Iy (C1 hr)).prim;have k2:Kb K (prim (Q ss)):=(Iy (C1 hs)).prim;have l1:(prim (Q rs)).length<=rs.length:=by rw[BN];have:=Bq (Q rs);rwa [s] at this
 have l2:(prim (Q ss)).length<=ss.length:=by rw[BN];have:=Bq (Q ss);rwa [s] at this
 unfold Lt;split
 ·rename_i hl;have hphi:(K+1)*IS (prim (Q rs)).length (prim (Q ss)).length<=500000:=Be (AL _ (Ow hl (by omega))) hS;obtain⟨bs,hb⟩:=Y3 (prim (Q ss)).length (prim (Q rs)) (prim (Q ss)) (K+1) (by omega) (Ap _) hl (by omega) (BU _) (BU _) k1 k2 hphi;obtain⟨s1,s2⟩:=Lv (prim (Q ss)).length (prim (Q rs)) (prim (Q ss)) (K+1) (by omega) (Ap _) hl (BX _) (BX _) k1 k2;exact P4 hr hs (by omega) (by omega) (by omega) s1 (by omega) (by omega) hb
 ·rename_i hl;have hphi:(K+1)*IS (prim (Q ss)).length (prim (Q rs)).length<=500000:=Be (AL _ (Ow (by omega) (by omega))) hS;obtain⟨bs,hb⟩:=Y3 (prim (Q rs)).length (prim (Q ss)) (prim (Q rs)) (K+1) (by omega) (Ap _) (by omega) (by omega) (BU _) (BU _) k2 k1 hphi;obtain⟨s1,s2⟩:=Lv (prim (Q rs)).length (prim (Q ss)) (prim (Q rs)) (K+1) (by omega) (Ap _) (by omega) (BX _) (BX _) k2 k1;have hy0:prim (Q ss) ≠ []:=by intro h;rw[h] at hl;simp at hl
  have hsw:Bt (prim (Q rs)) (prim (Q ss))=prim (Q rs):=by
   unfold Bt;cases hx:(prim (Q rs)).length with
   | zero=>rfl
   | succ n=>simp only[Eb];rw[if_neg hl]
  have hrem:=JL (rs:=(prim (Q rs)).map cn) (ss:=(prim (Q ss)).map cn) (AW k1) (AW k2) (by omega) (by omega) (by rw[N];omega) (by rw[N];omega) (by rw[v,BU];exact hy0) (by
   rw[v,v,BU,BU,show (prim (Q rs)).length+1-(prim (Q ss)).length=0 by omega,SX];omega)
  rw[v,v,BU,BU,hsw] at hrem;have hrem':RQ 118 [H ((prim (Q rs)).map cn).length (pc ((prim (Q rs)).map cn)),H ((prim (Q ss)).map cn).length (pc ((prim (Q ss)).map cn))] (L 2 ((prim (Q rs)).map cn).length (pc ((prim (Q rs)).map cn))):=by
   have hlm:((prim (Q rs)).map cn).length=(prim (Q rs)).length:=N ..;(first|rw[hlm] at hrem |-|(unfold sL at hrem;rw[hlm] at hrem |-));exact hrem
  have k:=eZ ((prim (Q rs)).map cn) ((prim (Q ss)).map cn) _ (by rw[decide_eq_true_eq,N];omega) hrem';exact P4 hr hs (by omega) (by omega) (by omega) s1 (by omega) (by omega) (Cv.loop k hb)
end Go.Proofs.YtajompaehjkgkaaGreat
namespace Go.Ai
open Classical renaming byContradiction->A5
open Int renaming add_mul->Hg,add_zero->B5,mul_assoc->AH,mul_eq_zero->KR,mul_ne_zero->BW,mul_zero->AM,natAbs_natCast->BD,zero_mul->DF
open List renaming eq_nil_of_length_eq_zero->A9,getD_cons_succ->Ka,length->Bh,length_pos_iff->An,range->Aq,replicate->Av
open Nat renaming add_mul->D',mul_le_mul_left->AL,one_mul->Fk
open Or renaming inr->TP
theorem Y4{p q:LI}(h:∀ x,V p x=V q x)(x:Int):V (At p) x=V (At q) x :=
 Gw (fun i=>by rw[DC,DC,DB h]) x
theorem Wt(a:Int)(p:LI)(x:Int):V (At (a::p)) x=V p x+x*V (At p) x:=by
 have h:∀ i,(At (a::p)).getD i 0=(Du p (0::At p)).getD i 0:=by
  intro i;rw[CX,DC,Ka];cases i with
  | zero=>simp
  | succ i=>rw[Ka,DC];push_cast;grind
 rw[Gw h x,BM];simp[V]
theorem Aaz(p q:LI)(x:Int):V (At (Du p q)) x=V (At p) x+V (At q) x:=by
 rw[<- BM];exact Gw (fun i=>by rw[CX,DC,DC,DC,CX,Hg]) x
theorem HQ(c:Int)(p:LI)(x:Int):V (At (Ay c p)) x=c*V (At p) x:=by
 rw[<- A0];exact Gw (fun i=>by rw[AR,DC,DC,AR,AH]) x
theorem Aba:At []=[]:=rfl
theorem Y5(p q:LI)(x:Int):V (At (BQ p q)) x=V (At p) x*V q x+V p x*V (At q) x:=by
 induction p with
 | nil=>simp[BQ,Aba,V]
 | cons a p ih =>
  simp only[BQ];rw[Aaz,HQ,Wt,Wt,ih,Bf];simp only[V];generalize V (At p) x=A at *
  generalize V (At q) x=B at *
  grind
theorem Ql{r p q:LI}(h:∀ x,V r x=V p x*V q x)(x:Int):V (At r) x=V (At p) x*V q x+V p x*V (At q) x:=by
 rw[<- Y5];exact Y4 (fun x=>by rw[h x,Bf]) x
theorem ZF{p q:LI}{c d:Int}(h:∀ x,c*V p x=d*V q x)(x:Int):c*V (At p) x=d*V (At q) x:=by
 rw[<- HQ,<- HQ];exact Y4 (fun x=>by rw[A0,A0,h x]) x
theorem S5(p:LI):(At p).length<=p.length-1:=by
 unfold At;have:=Bq ((Aq (p.length-1)).map fun j=>p.getD (j+1) 0*((j+1:Nat):Int));simpa using this
theorem Wu{K:Nat}{p:LI}(h:Kb K p)(hl:p.length<=1048576):Kb (K+2) (At p):=fun i=>by
 rw[DC];by_cases hi:i<1048576
 ·refine ((h (i+1)).mul (k:=1) ?_).mono (by omega);unfold Bm;rw[BD];omega
 ·rw[Bw (xs:=p) (by omega),DF];exact GS _
def GZ(h:LI):Nat->LI
 | 0=>[1]
 | k+1=>BQ (GZ h k) h
theorem Y6(h:LI):∀ (k:Nat) (x:Int),V (At (GZ h k)) x*V h x=(k:Int)*V (GZ h k) x*V (At h) x
 | 0,x=>by simp[GZ,At,V,Aa,l]
 | k+1,x=>by
  have ih:=Y6 h k x;simp only[GZ];rw[Y5,Bf];push_cast;generalize V (At (GZ h k)) x=A at *
  generalize V (GZ h k) x=B at *
  generalize V (At h) x=C at *
  generalize V h x=H at *
  have:(A*H+B*C)*H=(A*H)*H+B*C*H:=by grind
  rw[this,ih];grind
theorem Nd{h:LI}(hh:Aa h ≠ []):∀ k,Aa (GZ h k) ≠ []/\(Aa (GZ h k)).length=k*((Aa h).length-1)+1
 | 0=>by
  have e:Aa (GZ h 0)=[1]:=rfl;rw[e];simp
 | k+1=>by
  obtain⟨a,b⟩:=Nd hh k;have h1:=An.2 hh;have e:=Oz a hh;have e2:(Aa (GZ h (k+1))).length=(k+1)*((Aa h).length-1)+1:=by
   simp only[GZ];rw[e,b,D',Fk];omega
  refine⟨?_,e2⟩;intro h0;rw[h0] at e2;simp at e2
theorem ZG{a G f h:LI}{c:Int}(ha:Aa a ≠ [])(hG:HO G a (At a))(hc:c ≠ 0)(hf:∀ x,c*V a x=V G x*V f x)(h1:Dv h f)(h2:Dv h (At f)):(Aa h).length=1:=by
 obtain⟨g1,⟨c2,e,hc2,he⟩,c3,u,v,hc3,hb⟩:=hG;have hG0:Aa G ≠ []:=(g1.length ha).2;have hf0:Aa f ≠ []:=by
  intro h0;have:Aa a=Aa []:=by
   apply HL;intro x;have h3:=hf x;rw[En h0,AM] at h3;rcases KR.1 h3 with g | g
   ·exact absurd g hc
   ·exact g
  exact ha this
 have hh0:Aa h ≠ []:=(h1.length hf0).2;have hC:∀ x,c*c2*c3=c2*V u x*V f x+c*V v x*V e x:=by
  have h3:=Wl hG0 [c*c2*c3] (Du (Ay c2 (BQ u f)) (Ay c (BQ v e))) (fun x=>by
   have a1:=hf x;have a2:=he x;have a3:=hb x;rw[BM,A0,A0,Bf,Bf];simp only[V];generalize V G x=G at *
   generalize V f x=f at *
   generalize V e x=e at *
   generalize V u x=u at *
   generalize V v x=v at *
   generalize V (At a) x=a' at *
   generalize V a x=a at *
   have e1:G*(c*c2*c3+x*0)=c*c2*(c3*G):=by grind
   rw[e1,a3];have e2:c*c2*(u*a+v*a')=c2*u*(c*a)+c*v*(c2*a'):=by grind
   rw[e2,a1,a2];grind)
  intro x;have h4:=h3 x;rw[BM,A0,A0,Bf,Bf] at h4;simp only[V,AM,B5] at h4;grind
 have hd:∀ x,c*(V G x*V e x)=c2*(V (At G) x*V f x+V G x*V (At f) x):=by
  intro x;have a1:=Ql (r:=Ay c a) (p:=G) (q:=f) (fun x=>by rw[A0];exact hf x) x;rw[HQ] at a1;have a2:=he x;rw[<- a1,<- a2];grind
 obtain⟨c4,t,hc4,ht⟩:=h1;obtain⟨c5,w,hc5,hw⟩:=h2;have hft:∀ x,c4*V (At f) x=V (At h) x*V t x+V h x*V (At t) x:=by
  intro x;have a1:=Ql (r:=Ay c4 f) (p:=h) (q:=t) (fun x=>by rw[A0];exact ht x) x;rw[HQ] at a1;exact a1
 have hk:∀ k,Dv (GZ h k) G:=by
  intro k;induction k with
  | zero=>exact⟨1,G,by decide,fun x=>by simp[GZ,V]⟩
  | succ k ih =>
   obtain⟨ck,s,hck,hs⟩:=ih;obtain⟨p1,_⟩:=Nd hh0 k;have hGs:∀ x,ck*V (At G) x=V (At (GZ h k)) x*V s x+V (GZ h k) x*V (At s) x:=by
    intro x;have a1:=Ql (r:=Ay ck G) (p:=GZ h k) (q:=s) (fun x=>by rw[A0];exact hs x) x;rw[HQ] at a1;exact a1
   have hes:∀ x,c4*c5*c*(V e x*V s x)=V h x*(c2*((k:Int)*V s x*(c4*V w x-c5*V (At t) x)+c5*(V (At s) x*V t x)+c4*(V s x*V w x))):=by
    have h3:=Wl (p:=BQ (GZ h k) h) (by
      intro h0;have:=Oz p1 hh0;rw[h0] at this;have:=An.2 p1;have:=An.2 hh0;simp at *
      omega) (Ay (c4*c5*c) (BQ e s)) (BQ h (Ay c2 (Du (Du (BQ (Ay (k:Int) s) (Mj (Ay c4 w) (Ay c5 (At t)))) (Ay c5 (BQ (At s) t))) (Ay c4 (BQ s w))))) (fun x=>by
     have a1:=hd x;have a2:=ht x;have a3:=hw x;have a4:=hft x;have a5:=hs x;have a6:=hGs x;have a7:=Y6 h k x;simp only[Bf,A0,BM,FA];generalize V (At (GZ h k)) x=P' at *
     generalize V (At G) x=G' at *
     generalize V (At f) x=f' at *
     generalize V (At h) x=h' at *
     generalize V (At t) x=t' at *
     generalize V (At s) x=s' at *
     generalize V (GZ h k) x=P at *
     generalize V G x=G at *
     generalize V f x=f at *
     generalize V e x=e at *
     generalize V h x=h at *
     generalize V t x=t at *
     generalize V w x=w at *
     generalize V s x=s at *
     have b1:P*h*(c4*c5*c*(e*s))=c4*c5*h*(c*((P*s)*e)):=by grind
     rw[b1,<- a5];have b2:c4*c5*h*(c*(ck*G*e))=c4*c5*h*ck*(c*(G*e)):=by grind
     rw[b2,a1];have b3:c4*c5*h*ck*(c2*(G'*f+G*f'))=c5*c2*((ck*G')*h*(c4*f)+(ck*G)*h*(c4*f')):=by grind
     rw[b3,a6,a5,a2];have b4:(P'*s+P*s')*h*(h*t)=(P'*h)*s*h*t+P*s'*h*h*t:=by grind
     rw[b4,a7];have b5:(k:Int)*P*h'*s*h*t=(k:Int)*P*s*h*(h'*t):=by grind
     have b6:h'*t=c4*f'-h*t':=by omega
     rw[b5,b6];have b7:c5*c2*((k:Int)*P*s*h*(c4*f'-h*t')+P*s'*h*h*t+P*s*h*(c4*f'))=c2*((k:Int)*P*s*h*(c4*(c5*f')-c5*(h*t'))+c5*(P*s'*h*h*t)+P*s*h*(c4*(c5*f'))):=by grind
     rw[b7,a3];grind)
    intro x;have h4:=h3 x;simp only[Bf,A0,BM,FA] at h4;exact h4
   have d1:Dv h (BQ e s):=⟨c4*c5*c,Ay c2 (Du (Du (BQ (Ay (k:Int) s) (Mj (Ay c4 w) (Ay c5 (At t)))) (Ay c5 (BQ (At s) t))) (Ay c4 (BQ s w))),BW (BW hc4 hc5) hc,fun x=>by
    simp only[Bf,A0,BM,FA];exact hes x⟩
   have d2:Dv h (BQ f s):=Xv s ⟨c4,t,hc4,ht⟩ (fun x=>Bf _ _ x);have d3:Dv h s:=Mo (m:=c*c2*c3) (Ay c2 u) (Ay c v) (BW (BW hc hc2) hc3) d2 d1 (fun x=>by
    rw[hC x];simp only[Bf,A0];grind)
   obtain⟨c6,s2,hc6,hs2⟩:=d3;refine⟨c6*ck,s2,BW hc6 hck,fun x => ?_⟩;have a1:=hs x;have a2:=hs2 x;simp only[GZ];rw[Bf,AH,a1];have b1:c6*(V (GZ h k) x*V s x)=V (GZ h k) x*(c6*V s x):=by grind
   rw[b1,a2];grind
 have hh1:=An.2 hh0;apply A5;intro hn;have h3:=((hk (Aa G).length).length hG0).1;rw[(Nd hh0 _).2] at h3;have:(Aa G).length*1<=(Aa G).length*((Aa h).length-1):=AL _ (by omega);omega
def Ag(p:LI):LI :=
 if (z (prim p)).length<2\/(Di (z (prim p)) (At (z (prim p)))).length<2 then z (prim p)
 else prim (GY (Di (z (prim p)) (At (z (prim p)))) ((z (prim p)).length-(Di (z (prim p)) (At (z (prim p)))).length+1) (z (prim p)) (Av ((z (prim p)).length-(Di (z (prim p)) (At (z (prim p)))).length+1) 0))
theorem Rq{g:LI}(h:g.length=1):∃ c,g=[c]:=by
 match g,h with
 | [c],_=>exact⟨c,rfl⟩
theorem fG{a:LI}(la:BZ a)(h0:a ≠ [])(ca:AQ a=1)(ta:0<w a)(f:LI)
  (hf:f=if a.length<2\/(Di a (At a)).length<2 then a else prim (GY (Di a (At a)) (a.length-(Di a (At a)).length+1) a (Av (a.length-(Di a (At a)).length+1) 0))) :
  BZ f/\AQ f=1/\0<w f/\f ≠ []/\f.length=a.length-(Di a (At a)).length+1/\∃ c d:Int,c ≠ 0/\d ≠ 0/\∀ x,c*V a x=d*(V (Di a (At a)) x*V f x):=by
 have hta:Aa a ≠ []:=Fb la h0;have hG:=Ky a (At a);have lG:=KH a (At a);have nG:=Mp (t:=At a) hta;have tG:=S4 (t:=At a) hta;have hGl:=(hG.1.length hta).1;rw[lG,la] at hGl;have hal:=An.2 h0;have hgl:=An.2 nG;generalize Di a (At a)=G at *
 by_cases hs:a.length<2\/G.length<2
 ·rw[if_pos hs] at hf;subst hf;have hG1:G.length=1:=by omega
  obtain⟨c,rfl⟩:=Rq hG1;refine⟨la,ca,ta,h0,by omega,c,1,?_,by decide,fun x=>by simp[V]⟩;have:w [c]=c:=rfl;omega
 ·rw[if_neg hs] at hf;obtain⟨c',r',c1,r1,r2,r3⟩:=T2 (p:=a) (q:=G) nG tG hGl;generalize GY G (a.length-G.length+1) a (Av (a.length-G.length+1) 0)=o at *
  have to:=Yv c1 ta nG tG hGl r2 r3 r1;have hr0:Aa r'=[]:=by
   apply A5;intro hn;have hd:Dv G r':=Mo (m:=1) [c'] (Cc o) (by decide) hG.1 (Dv.refl G) (fun x=>by
    have:=r3 x;rw[HU];simp only[V];grind)
   have h1:=(hd.length hn).1;rw[lG] at h1;have hl1:=An.2 hn;have h2:=E6 (HM r') hn;rw[Dc,r1 _ (by omega)] at h2;exact h2 rfl
  have ho0:o ≠ []:=by intro h1;rw[h1] at r2;simp at r2
  have lo:BZ o:=Rg (TP (by unfold w at to;omega));obtain⟨m,hm,hpe⟩:=FI o;subst hf;refine⟨BX o,KF (Fb lo ho0),P1 to,?_,by rw[BN,lo,r2],c',m,by omega,hm,fun x => ?_⟩
  ·intro h1;rw[Ee,<- C',lo] at h1;exact ho0 h1
  ·rw[r3 x,En hr0,hpe x];grind
theorem Wv{p:LI}(hp:Aa p ≠ []):BZ (z (prim p))/\z (prim p) ≠ []/\AQ (z (prim p))=1/\0<w (z (prim p))/\(z (prim p)).length=(Aa p).length/\∃ m:Int,m ≠ 0/\∃ n:Int,n ≠ 0/\∀ x,n*V p x=m*V (z (prim p)) x:=by
 have h1:prim p ≠ []:=by intro h;rw[Ee,<- C'] at h;exact hp h
 obtain⟨m,hm,h2⟩:=FI p;obtain⟨n,hn,h3⟩:=Wp (prim p);refine⟨M_ (BX p),?_,by rw[Wr];exact KF hp,Y1 (BX p) h1,by rw[Kc,BN],m,hm,n,hn,fun x=>by rw[h2 x,h3 x];grind⟩;intro h;have:=congrArg Bh h;rw[Kc] at this;exact h1 (A9 this)
theorem TZ{f:LI}(lf:BZ f)(cf:AQ f=1)(tf:0<w f):z (prim f)=f:=by
 rw[H9 lf cf];unfold z;rw[if_neg (by omega)]
theorem Fi{p:LI}(hp:Aa p ≠ []):BZ (Ag p)/\AQ (Ag p)=1/\0<w (Ag p)/\Ag p ≠ []/\Dv (Ag p) p /\
  (Ag p).length+(Di (z (prim p)) (At (z (prim p)))).length=(Aa p).length+1/\HO (Di (z (prim p)) (At (z (prim p)))) p (At p)/\(Di (Ag p) (At (Ag p))).length=1:=by
 obtain⟨la,h0,ca,ta,hl,m,hm,n,hn,hpe⟩:=Wv hp;obtain⟨lf,cf,tf,f0,fl,c,d,hc,hd,hcd⟩:=fG la h0 ca ta (Ag p) rfl;have hta:Aa (z (prim p)) ≠ []:=Fb la h0;have hG:=Ky (z (prim p)) (At (z (prim p)));have lG:=KH (z (prim p)) (At (z (prim p)));have nG:=Mp (t:=At (z (prim p))) hta;have hGl:=(hG.1.length hta).1;rw[lG,la] at hGl;have hder:∀ x,n*V (At p) x=m*V (At (z (prim p))) x:=ZF hpe;generalize z (prim p)=a at *
 generalize Di a (At a)=G at *
 generalize Ag p=f at *
 have hal:=An.2 h0;have hgl:=An.2 nG;refine⟨lf,cf,tf,f0,?_,by omega,?_,?_⟩
 ·have h1:Dv f a:=⟨c,Ay d G,hc,fun x=>by rw[hcd x,A0];grind⟩;exact h1.scaled hn hpe
 ·exact hG.scaled hn hm hn hm hpe hder
 ·have hK:=Ky f (At f);have nK:=Mp (t:=At f) (Fb lf f0);have lK:=KH f (At f);have h1:=ZG (h:=Di f (At f)) (f:=Ay d f) (c:=c) hta hG hc (fun x=>by rw[hcd x,A0];grind)
   (hK.1.scaled (m:=1) (n:=d) (by decide) (fun x=>by rw[A0];omega)) (hK.2.1.scaled (m:=1) (n:=d) (by decide) (fun x=>by rw[HQ];omega))
  rwa [lK] at h1
theorem fH{f:LI}(lf:BZ f)(cf:AQ f=1)(tf:0<w f)(h:(Di f (At f)).length<2):Ag f=f:=by
 unfold Ag;rw[TZ lf cf tf];exact if_pos (TP h)
theorem Rr{p:LI}(hp:Aa p ≠ []):Ag (Ag p)=Ag p:=by
 obtain⟨lf,cf,tf,f0,_,_,_,h1⟩:=Fi hp;exact fH lf cf tf (by omega)
theorem Y7{p:LI}{K:Nat}(hp:Aa p ≠ [])(hl:p.length<=9)(hK:Kb K p):Kb (K+3) (Ag p)/\(Ag p).length<=(Aa p).length:=by
 obtain⟨lf,cf,tf,f0,hd,_,_,_⟩:=Fi hp;have h1:=(hd.length hp).1;rw[lf] at h1;obtain⟨c,k,hc,hk⟩:=hd;have:=Bq p;exact⟨Rm hc cf hp hl (by omega) hK hk,h1⟩
end Go.Ai
namespace Go.Proofs.YtajompaehjkgkaaGreat
open Go.Ai
set_option maxRecDepth 100000
open BitVec renaming ofInt->T,or_comm->TW
open Bool renaming and_eq_true->Ad,eq_iff_iff->aF,false_and->I8,false_or->WM,or_eq_false_iff->SP
open Decidable renaming decide->B
open Go.Ai.AV renaming agg->o,bool->D,fresh->L,int->F,sl->H,tup->Ax
open Go.Ai.Reg renaming box->g,own->X,val->C
open Go.IntKind renaming bits->Am,i64->O,u32->Ac,u64->U,wrap->I
open Int renaming add_comm->Ks,add_mul_ediv_left->SO,add_mul_emod_self_left->TO,add_zero->B5,ediv_eq_zero_of_lt->GK,ediv_nonneg->J3,ediv_one->aI,emod_eq_of_lt->Gh,emod_lt_of_pos->Ey,emod_nonneg->FE,fdiv->d,fdiv_eq_ediv_of_nonneg->t,le_of_lt->A7,lt_trichotomy->qU,mul_add->CW,mul_assoc->AH,mul_comm->AA,mul_ediv_add_emod->G2,mul_ediv_cancel_left->BT,mul_eq_zero->KR,mul_le_mul_of_nonneg_left->Ak,mul_lt_mul_right->pF,mul_neg->EV,mul_neg_of_pos_of_neg->Mm,mul_nonneg->A6,mul_one->Dn,mul_pos->BL,mul_pow->Q8,mul_zero->AM,natAbs->E,natAbs_mul->BK,natAbs_of_nonneg->KS,natAbs_pow->N5,natCast_mul->CQ,one_mul->Do,pow_add->BB,pow_pos->Ez,pow_succ->A2,pow_zero->CE,sub_zero->EY,tdiv->Aw,tdiv_eq_ediv_of_nonneg->B8,tmod->AD,tmod_eq_emod_of_nonneg->Bs,toNat->A,toNat_natCast->R,zero_add->DK,zero_mul->DF
open List renaming any_eq_false->P9,any_eq_true->YQ,drop_eq_getElem_cons->CL,eq_nil_of_length_eq_zero->A9,ext_getElem?->Gg,getD_eq_getElem?_getD->Z,getElem?_append_left->AN,getElem?_append_right->AT,getElem?_drop->Bu,getElem?_eq_getElem->Af,getElem?_eq_none->AE,getElem?_map->Ch,getElem?_set_self->WP,getElem?_take_of_lt->B1,getElem_mem->CT,length->Bh,length_append->AX,length_drop->Ep,length_map->N,length_pos_iff->An,length_range->B9,length_replicate->Fs,length_set->A',length_take->AB,map_append->D_,map_cons->C2,map_map->Awk,map_nil->GC,map_replicate->A6z,map_set->Awj,mem_cons->D4,mem_iff_getElem->H3,range->Aq,range_succ->Hq,replicate->Av,set_set->RD
open Nat renaming add_assoc->Dw,add_comm->JW,add_mul->D',add_zero->FR,le_add_right->Pg,le_mul_of_pos_right->BP,le_refl->Ap,le_trans->Be,log2->Cg,log2_lt->LJ,lt_of_le_of_lt->Dt,lt_of_not_le->I4,lt_or_ge->Cp,mod_lt->HB,mul_assoc->EQ,mul_comm->CS,mul_le_mul->Bj,mul_le_mul_left->AL,mul_le_mul_right->AF,mul_pos->Es,mul_succ->Pf,one_mul->Fk,pow_add->De,pow_le_pow_right->BF,pow_lt_pow_right->Qf,pow_mul->A6w,pow_pos->BS,pow_succ->FM,sub_add_cancel->Lq,sub_self->LV,sub_zero->JV,zero_add->B_,zero_le->Ba,zero_mul->SX
theorem nX{E rs:List Rn}{m:Nat}(hl:E.length=rs.length)(h:∀ x,x<m->E.getD x z0=rs.getD x z0):FC E rs m=rs:=by
 apply Gg;intro t;unfold FC;by_cases ht:t<m
 ·by_cases hm:t<E.length
  ·have:=h t ht;rw[Z,Z,Af hm,Af (by omega)] at this;rw[AN (by rw[AB];omega),B1 ht,Af hm,Af (by omega)];simpa using this
  ·rw[AE (by rw[AX,AB,Ep];omega),AE (by omega)]
 ·by_cases hm:m<=E.length
  ·rw[AT (by rw[AB];omega),AB,Bu];congr 1;omega
  ·rw[AE (by rw[AX,AB,Ep];omega),AE (by omega)]
theorem nY{E rs:List Rn}{m:Nat}(hl:E.length=rs.length)(hm:m<=rs.length)(h:∀ x,m<=x->E.getD x z0=rs.getD x z0):FC E rs m=E:=by
 apply Gg;intro t;unfold FC;by_cases ht:t<m
 ·rw[AN (by rw[AB];omega),B1 ht]
 ·rw[AT (by rw[AB];omega),AB,Bu,show m+(t-min m E.length)=t by omega];by_cases hm:t<E.length
  ·have:=h t (by omega);rw[Z,Z,Af hm,Af (by omega)] at this;rw[Af hm,Af (by omega)];simpa using this.symm
  ·rw[AE (by omega),AE (by omega)]
section
variable {p q:LI} {J Kq:Nat}
theorem S6{c:Int}(hp:Kb J p)(hc:Bm Kq c):Kb (J+Kq) (Ay c p):=fun i=>by
 rw[AR,JW];exact hc.mul (hp i)
theorem A6d{t:Int}{l:Rn}{qs os:List Rn}{kq:Nat}{j:Int}(hp:Kb J p)(ht:Bm Kq t)(hS:J+Kq<1048576)(hN:p.length<=1048576) :
  Ar (.loop OJ) (Ji qs p.length (p.map cn) (cn t) kq os j l (p.length:Nat) 0) (.exit 2) (Ji qs p.length ((Ay t p).map cn) (cn t) kq os j l (p.length:Nat) (p.length:Nat)):=by
 have hE:((Ay t p).map cn).length=(p.map cn).length:=by rw[N,N,Bc]
 have hpl:(p.map cn).length=p.length:=N ..;have h:=Cv.up (prog:=AY) (c:=OJ) (ex := .exit 2) (fin:=Ji qs p.length ((Ay t p).map cn) (cn t) kq os j l (p.length:Nat) (p.length:Nat))
  (fun i=>Ji qs p.length (FC ((Ay t p).map cn) (p.map cn) i) (cn t) kq os j l (p.length:Nat) (i:Nat)) p.length (by nofun) ?_ ?_ 0 (Ba _)
 ·rw[Na] at h;exact h
 ·intro i hi;have ei:I O ((i:Int)+1)=((i+1:Nat):Int):=by rw[Bl (by omega) (by omega)];omega
  have hml:=Ho hE i;have hget:=Mq hE (i:=i) (by omega);have hEi:((Ay t p).map cn).getD i z0=cn ((Ay t p).getD i 0):=Fh (by rw[Bc];exact hi);have hset:=Mr hE (i:=i) (by omega);rw[hEi,AR] at hset;have gp:=Bg (AW hp) i;have gt:=BG ht;have vi:=Gf p i;have m1:=Ms gp gt (by omega);generalize FC ((Ay t p).map cn) (p.map cn) i=M at *
  have k:=Aap qs p.length M (cn t) kq os j l (p.length:Nat) (i:Nat) (by simp;omega) (by omega) (by omega) (by rw[R,hget];exact m1);refine k.to rfl ?_;simp only[ei,R,hget];rw[vi,u,AA,hset]
 ·rw[show FC ((Ay t p).map cn) (p.map cn) p.length=(Ay t p).map cn by have h:=Nb hE;rw[hpl] at h;exact h];exact Aaq _ _ _ _ _ _ _ _ _ _ (by simp)
theorem A6e{t:Int}{l:Rn}{qs rs:List Rn}{k:Nat}{j:Int}(hp:Kb J p)(ht:Bm Kq t)(hS:J+Kq<1048576)(hN:p.length<=1048576) :
  Ar (.loop OK) (Jj qs k rs (cn t) p.length (p.map cn) j l (p.length:Nat) 0) (.exit 4) (Jj qs k rs (cn t) p.length ((Ay t p).map cn) j l (p.length:Nat) (p.length:Nat)):=by
 have hE:((Ay t p).map cn).length=(p.map cn).length:=by rw[N,N,Bc]
 have hpl:(p.map cn).length=p.length:=N ..;have h:=Cv.up (prog:=AY) (c:=OK) (ex := .exit 4) (fin:=Jj qs k rs (cn t) p.length ((Ay t p).map cn) j l (p.length:Nat) (p.length:Nat))
  (fun i=>Jj qs k rs (cn t) p.length (FC ((Ay t p).map cn) (p.map cn) i) j l (p.length:Nat) (i:Nat)) p.length (by nofun) ?_ ?_ 0 (Ba _)
 ·rw[Na] at h;exact h
 ·intro i hi;have ei:I O ((i:Int)+1)=((i+1:Nat):Int):=by rw[Bl (by omega) (by omega)];omega
  have hml:=Ho hE i;have hget:=Mq hE (i:=i) (by omega);have hEi:((Ay t p).map cn).getD i z0=cn ((Ay t p).getD i 0):=Fh (by rw[Bc];exact hi);have hset:=Mr hE (i:=i) (by omega);rw[hEi,AR] at hset;have gp:=Bg (AW hp) i;have gt:=BG ht;have vi:=Gf p i;have m1:=Ms gp gt (by omega);generalize FC ((Ay t p).map cn) (p.map cn) i=M at *
  have k:=Aar qs k rs (cn t) p.length M j l (p.length:Nat) (i:Nat) (by simp;omega) (by omega) (by omega) (by rw[R,hget];exact m1);refine k.to rfl ?_;simp only[ei,R,hget];rw[vi,u,AA,hset]
 ·rw[show FC ((Ay t p).map cn) (p.map cn) p.length=(Ay t p).map cn by have h:=Nb hE;rw[hpl] at h;exact h];exact Aas _ _ _ _ _ _ _ _ _ _ (by simp)
theorem A6f{t:Rn}{l:Int}{os:List Rn}{kq j Jp:Nat}(hp:Kb Jp p)(hq:Kb Kq q)(hl:Bm J l)(hS:J+Kq<1048576)(hJp:Jp<1048576)(hN:p.length<=1048576)(hj:j+q.length<=p.length) :
  Ar (.loop OL) (Jk (q.map cn) p.length (p.map cn) t kq os (j:Nat) (cn l) (q.length:Nat) 0) (.exit 6) (Jk (q.map cn) p.length ((GX p q l j).map cn) t kq os (j:Nat) (cn l) (q.length:Nat) (q.length:Nat)):=by
 have hE:((GX p q l j).map cn).length=(p.map cn).length:=by rw[N,N,G8]
 have hpl:(p.map cn).length=p.length:=N ..;have gE:∀ x,x<p.length->((GX p q l j).map cn).getD x z0=cn (p.getD x 0-l*(Ce j q).getD x 0):=fun x hx=>by
  rw[Fh (by rw[G8];exact hx),Lr _ _ _ _ _ hj]
 have eout:∀ x,(x<j\/j+q.length<=x)->((GX p q l j).map cn).getD x z0=(p.map cn).getD x z0:=by
  intro x hx;by_cases h:x<p.length
  ·rw[gE x h,Fh h,Cj];rcases hx with hx | hx
   ·rw[if_neg (by omega),AM,EY]
   ·rw[if_pos (by omega),Bw (xs:=q) (show q.length<=x-j by omega),AM,EY]
  ·rw[Z,Z,AE (by omega),AE (by omega)]
 have h:=Cv.up (prog:=AY) (c:=OL) (ex := .exit 6) (fin:=Jk (q.map cn) p.length ((GX p q l j).map cn) t kq os (j:Nat) (cn l) (q.length:Nat) (q.length:Nat))
  (fun i=>Jk (q.map cn) p.length (FC ((GX p q l j).map cn) (p.map cn) (j+i)) t kq os (j:Nat) (cn l) (q.length:Nat) (i:Nat)) q.length (by nofun) ?_ ?_ 0 (Ba _)
 ·rw[FR,nX hE (fun x hx=>eout x (.inl hx))] at h;exact h
 ·intro i hi;have ei:I O ((i:Int)+1)=((i+1:Nat):Int):=by rw[Bl (by omega) (by omega)];omega
  have eji:I O ((j:Int)+(i:Int))=((j+i:Nat):Int):=by rw[Bl (by omega) (by omega)];omega
  have hml:=Ho hE (j+i);have hget:=Mq hE (i:=j+i) (by omega);have hEi:=gE (j+i) (by omega);rw[Cj,if_pos (by omega),show j+i-j=i by omega] at hEi;have hset:=Mr hE (i:=j+i) (by omega);rw[hEi] at hset;have gp:=Bg (AW hp) (j+i);have gq:=Bg (AW hq) i;have gl:=BG hl;have vi:=Gf p (j+i);have vq:=Gf q i;have m1:=Ms gl gq (by omega);have f1:Bm (J+Kq) (P (cn l)*P ((q.map cn).getD i z0)):=Bm.mul (by rw[u];exact hl) gq.fits;have m2:=fE gp (BG f1) (by omega) (by omega);rw[u (P (cn l)*P ((q.map cn).getD i z0))] at m2;generalize FC ((GX p q l j).map cn) (p.map cn) (j+i)=M at *
  have k:=Aat (q.map cn) p.length M t kq os (j:Nat) (cn l) (q.length:Nat) (i:Nat) (by simp;omega) (by rw[eji];omega) (by omega) (by rw[N];omega) (by rw[R];exact m1) (by rw[eji,R,R,hget];exact m2);refine k.to rfl ?_;simp only[ei,eji,R,hget];rw[vi,vq,u,hset,Dw]
 ·rw[nY hE (by omega) (fun x hx=>eout x (.inr hx))];exact Aau _ _ _ _ _ _ _ _ _ _ (by simp)
theorem Abb{l:Int}(hp:Kb (J+Kq) p)(hq:Kb Kq q)(hl:Bm J l)(k:Nat)(hk:k+q.length<=p.length):Kb (J+Kq+1) (GX p q l k):=fun i=>by
 rw[Lr _ _ _ _ _ hk,Cj];split
 ·exact (hp i).add (hl.mul (hq _)).neg
 ·rw[AM,EY];exact (hp i).mono (by omega)
theorem sM{l:Int}(hp:Kb J p)(hl:Bm J l)(k:Nat):Kb J (p.set k l):=fun i=>by
 by_cases h:i=k
 ·subst h;by_cases hi:i<p.length
  ·rw[Z,WP hi];exact hl
  ·rw[Bw (by rw[A'];omega)];exact GS _
 ·rw[Cs (by omega)];exact hp i
end
theorem Abc{q:LI}{Kq:Nat}(hq:Kb Kq q)(hq0:q ≠ []):∀ (k:Nat) (r out:LI) (J:Nat),Kb J r->Kb J out->J+k*(Kq+1)<1048576->k<=out.length->out.length+q.length=r.length+1->r.length<=1048576 ->
  (∃ r',Ar (.loop Vs) (Qj (q.map cn) r.length (r.map cn) (cn (w q)) out.length (out.map cn) ((k:Int)-1)) (.exit 0) (Qj (q.map cn) r.length r' (cn (w q)) out.length ((GY q k r out).map cn) (-1)))/\Kb (J+k*(Kq+1)) (GY q k r out)/\(GY q k r out).length=out.length:=by
 have hql:=An.2 hq0;intro k;induction k with
 | zero =>
  intro r out J _ ho _ _ _ _;exact⟨⟨_,Ao (Atq _ _ _ _ _ _ _ (by simp)) (by nofun)⟩,ho.mono (by omega),rfl⟩
 | succ k ih =>
  intro r out J hr ho hS hk hl hN;simp only[GY];have hS':J+Kq+1+k*(Kq+1)<1048576:=by rw[D',Fk] at hS;omega
  have el:Bm J (r.getD (k+q.length-1) 0):=hr _;have e1:((k+1:Nat):Int)-1=(k:Int):=by omega
  have e2:I O (I O ((k:Int)+(((q.map cn).length:Nat):Int))-1)=((k+q.length-1:Nat):Int):=by
   rw[N,Bl (n:=(k:Int)+(q.length:Nat)) (by omega) (by omega),Bl (by omega) (by omega)];omega
  have e3:(r.map cn).getD (k+q.length-1) z0=cn (r.getD (k+q.length-1) 0):=Fh (by omega);have e4:I O ((k:Int)-1)=(k:Int)-1:=Bl (by omega) (by omega);have ft:Bm Kq (w q):=hq _;generalize hlead:r.getD (k+q.length-1) 0=l at *
  have hps:=S6 hr ft;have hpo:=S6 ho ft;have la:=A6d (l:=cn l) (qs:=q.map cn) (os:=out.map cn) (kq:=out.length) (j:=(k:Nat)) hr ft (by omega) hN;have lb:=A6e (l:=cn l) (qs:=q.map cn) (rs:=(Ay (w q) r).map cn) (k:=r.length) (j:=(k:Nat)) ho ft (by omega) (by omega);have hlc:=A6f (t:=cn (w q)) (l:=l) (os:=((Ay (w q) out).set k l).map cn) (kq:=out.length) (j:=k) (p:=Ay (w q) r) (J:=J) hps hq el (by omega) (by omega) (by rw[Bc];exact hN) (by rw[Bc];omega);rw[Bc] at hlc;obtain⟨⟨r',hr'⟩,kb,len⟩:=ih (GX (Ay (w q) r) q l k) ((Ay (w q) out).set k l) (J+Kq+1) (Abb hps hq el k (by rw[Bc];omega)) (sM (hpo.mono (by omega)) (el.mono (by omega)) k) hS' (by rw[A',Bc];omega) (by rw[A',Bc,G8,Bc];exact hl) (by rw[G8,Bc];exact hN);rw[A',Bc,G8,Bc] at hr';refine⟨⟨r',?_⟩,kb.mono (by rw[D',Fk];omega),by rw[len,A',Bc]⟩;have hset:((Ay (w q) out).map cn).set k (cn l)=((Ay (w q) out).set k l).map cn:=by rw[Awj]
  have k1:=Atp (q.map cn) r.length (r.map cn) (cn (w q)) out.length (out.map cn) (k:Nat) ((Ay (w q) r).map cn) ((GX (Ay (w q) r) q l k).map cn) ((Ay (w q) out).map cn) _ _ _ _ _ _ (by simp) (by rw[e2];omega) (N ..)
   (by rw[e2,R,e3];exact la) (by rw[e2,R,e3];exact lb) (by omega) (by rw[N,Bc]) (by rw[e2,R,R,e3,hset,N];exact hlc)
  rw[e2,R,R,e3,hset,e4] at k1;rw[e1];exact Cv.loop k1 hr'
theorem Atv:cn 0=z0:=rfl
theorem Xw{p q:LI}{J K:Nat}(hp:Kb J p)(hq:Kb K q)(lp:BZ p)(hq0:q ≠ [])(hl:q.length<=p.length)(hN:p.length<=1000000)(hS:J+(p.length-q.length+1)*(K+1)<1048576) :
  RQ 156 [H (p.map cn).length (pc (p.map cn)),H (q.map cn).length (pc (q.map cn))] (L 2 ((prim (GY q (p.length-q.length+1) p (Av (p.length-q.length+1) 0))).map cn).length (pc ((prim (GY q (p.length-q.length+1) p (Av (p.length-q.length+1) 0))).map cn))):=by
 have hql:=An.2 hq0;have htr:=IN (rs:=p.map cn) (fun r h=>(AW hp r h).mono (show J<=1048576 by omega)) (by rw[N];omega);rw[v,lp] at htr;have htr':RQ 66 [H (p.map cn).length (pc (p.map cn))] (L 2 (p.map cn).length (pc (p.map cn))):=by (first|rw[N] at htr |-|(unfold sL at htr;rw[N] at htr |-));exact htr
 obtain⟨⟨r',hlp⟩,kb,len⟩:=Abc hq hq0 (p.length-q.length+1) p (Av (p.length-q.length+1) 0) J hp (fun i=>by rw[DA];exact GS _) hS (by simp) (by simp;omega) (by omega);rw[Fs] at hlp len;have e1:I O ((((q.map cn).length:Nat):Int)-1)=((q.length-1:Nat):Int):=by rw[N,Bl (by omega) (by omega)];omega
 have e2:I O (I O ((((p.map cn).length:Nat):Int)-(((q.map cn).length:Nat):Int))+1)=((p.length-q.length+1:Nat):Int):=by
  rw[N,N,Bl (n:=(p.length:Int)-(q.length:Nat)) (by omega) (by omega),Bl (by omega) (by omega)];omega
 have e3:I O (((p.length-q.length+1:Nat):Int)-1)=((p.length-q.length+1:Nat):Int)-1:=Bl (by omega) (by omega);have hz:(Av (p.length-q.length+1) (0:Int)).map cn=Av (p.length-q.length+1) z0:=by rw[A6z,Atv]
 have hpr:=Eo (rs:=(GY q (p.length-q.length+1) p (Av (p.length-q.length+1) 0)).map cn) (AW kb) (by omega) (by rw[N];omega);rw[v] at hpr;have hpr':=hpr;unfold sL at hpr';rw[show ∀ o:LI,(o.map cn).length=o.length from fun o=>N ..,len] at hpr';have k:=Atr (p.map cn) (q.map cn) (p.map cn) ((prim (GY q (p.length-q.length+1) p (Av (p.length-q.length+1) 0))).map cn) r' ((GY q (p.length-q.length+1) p (Av (p.length-q.length+1) 0)).map cn) (cn (w q)) p.length (p.length-q.length+1) (-1) htr' (by rw[e1,N];omega) (by rw[e2];omega) (by
   rw[e1,e2,R,R,e3,Oc,<- hz,Fh (show q.length-1<q.length by omega),show (p.map cn).length=p.length from N ..];exact hlp) (by
   have hlm:((prim (GY q (p.length-q.length+1) p (Av (p.length-q.length+1) 0))).map cn).length=(prim (GY q (p.length-q.length+1) p (Av (p.length-q.length+1) 0))).length:=N ..;rw[hlm];exact hpr')
 exact k
theorem nZ{rs:List Rn}{K c:Nat}(hr:∀ r∈rs,AO K r)(hn:rs.length<=c)(hc:c<=9)(hS:(K+3)*(2*3^c)<=500000):Nc 114 [sL pc rs] (Ag (Q rs)):=by
 have h3:0<3^c:=BS (by decide);have hK:K+3<=250000:=by
  have:(K+3)*2<=(K+3)*(2*3^c):=AL _ (by omega);omega
 have p1:=Eo hr (by omega) (by omega);have p1':RQ 115 [sL pc rs] (L 2 ((prim (Q rs)).map cn).length (pc ((prim (Q rs)).map cn))):=by rw[N];exact p1
 have k1:Kb K (prim (Q rs)):=(Iy (C1 hr)).prim;have l1:(prim (Q rs)).length<=rs.length:=by rw[BN];have:=Bq (Q rs);rwa [s] at this
 obtain⟨q1,q2⟩:=Ro k1 (by omega) (by omega);have ka:Kb K (z (prim (Q rs))):=by
  unfold z;split
  ·intro i;rw[GT];exact (k1 i).neg
  ·exact k1
 have la:=Kc (prim (Q rs));have lda:BZ (z (prim (Q rs))):=M_ (BX _);have hpp:(¬ w (prim (Q rs))<0)->z (prim (Q rs))=prim (Q rs):=OY;have hder:=P2 (rs:=(z (prim (Q rs))).map cn) (AW ka) (by omega) (by rw[N];omega);rw[v] at hder;have hder':RQ 116 [H ((z (prim (Q rs))).map cn).length (pc ((z (prim (Q rs))).map cn))] (L 2 ((At (z (prim (Q rs)))).map cn).length (pc ((At (z (prim (Q rs)))).map cn))):=by
  have hlm:((At (z (prim (Q rs)))).map cn).length=(At (z (prim (Q rs)))).length:=N ..;rw[hlm];exact hder
 have kd:Kb (K+2) (At (z (prim (Q rs)))):=Wu ka (by omega);have ld:(At (z (prim (Q rs)))).length<=c:=by have:=S5 (z (prim (Q rs)));omega
 have hcom:=Rp (rs:=(z (prim (Q rs))).map cn) (ss:=(At (z (prim (Q rs)))).map cn) (K:=K+2) (c:=c) (fun r h=>(AW ka r h).mono (by omega)) (AW kd) (by rw[N];omega) (by rw[N];exact ld) (by omega) hS;rw[v,v] at hcom;change Nc 135 _ (Di (z (prim (Q rs))) (At (z (prim (Q rs))))) at hcom;have hdiv:2<=(Di (z (prim (Q rs))) (At (z (prim (Q rs))))).length->RQ 156 [H ((z (prim (Q rs))).map cn).length (pc ((z (prim (Q rs))).map cn)),H ((Di (z (prim (Q rs))) (At (z (prim (Q rs))))).map cn).length (pc ((Di (z (prim (Q rs))) (At (z (prim (Q rs))))).map cn))]
   (L 2 ((prim (GY (Di (z (prim (Q rs))) (At (z (prim (Q rs))))) ((z (prim (Q rs))).length-(Di (z (prim (Q rs))) (At (z (prim (Q rs))))).length+1) (z (prim (Q rs))) (Av ((z (prim (Q rs))).length-(Di (z (prim (Q rs))) (At (z (prim (Q rs))))).length+1) 0))).map cn).length (pc ((prim (GY (Di (z (prim (Q rs))) (At (z (prim (Q rs))))) ((z (prim (Q rs))).length-(Di (z (prim (Q rs))) (At (z (prim (Q rs))))).length+1) (z (prim (Q rs))) (Av ((z (prim (Q rs))).length-(Di (z (prim (Q rs))) (At (z (prim (Q rs))))).length+1) 0))).map cn))):=by
  intro h2;have hp0:Aa (Q rs) ≠ []:=by
   intro h0;have:prim (Q rs)=[]:=Ee.2 (C'.1 h0);rw[this] at h2;exact absurd h2 (by decide)
  obtain⟨a1,a2,_,_,_,_⟩:=Wv hp0;obtain⟨b1,b2⟩:=fD (t:=At (z (prim (Q rs)))) (Fb a1 a2) (by omega) ka;rw[a1] at b2;exact Xw ka b1 lda (by intro h0;rw[h0] at h2;exact absurd h2 (by decide)) b2 (by omega) (by
   have h4:(z (prim (Q rs))).length-(Di (z (prim (Q rs))) (At (z (prim (Q rs))))).length+1<=10:=by omega
   have h5:=AF (K+3+1) h4;have h6:3^2<=3^c:=BF (by decide) (by omega);have h7:(K+3)*18<=(K+3)*(2*3^c):=AL _ (by omega);omega)
 unfold Ag;by_cases hs:(z (prim (Q rs))).length<2
 ·rw[if_pos (.inl hs)];by_cases ht:w (prim (Q rs))<0
  ·exact .inr (Xl rs _ _ (by rw[decide_eq_true_eq,N];omega) p1' (q1 ht))
  ·rw[hpp ht] at hs |-;exact .inr (Xs rs _ (by rw[decide_eq_true_eq,N];omega) p1' (q2 ht))
 ·by_cases hg:(Di (z (prim (Q rs))) (At (z (prim (Q rs))))).length<2
  ·rw[if_pos (.inr hg)];by_cases ht:w (prim (Q rs))<0
   ·rcases hcom with h | h
    ·exact .inr (Xm rs _ _ _ _ (by rw[decide_eq_false_iff_not,N];omega) (by rw[decide_eq_true_eq,N];omega) p1' (q1 ht) hder' h)
    ·exact .inr (Xo rs _ _ _ _ (by rw[decide_eq_false_iff_not,N];omega) (by rw[decide_eq_true_eq,N];omega) p1' (q1 ht) hder' h)
   ·rw[hpp ht] at *
    rcases hcom with h | h
    ·exact .inr (Xq rs _ _ _ (by rw[decide_eq_false_iff_not,N];omega) (by rw[decide_eq_true_eq,N];omega) p1' (q2 ht) hder' h)
    ·exact .inr (Xt rs _ _ _ (by rw[decide_eq_false_iff_not,N];omega) (by rw[decide_eq_true_eq,N];omega) p1' (q2 ht) hder' h)
  ·rw[if_neg (by omega)];have hdiv:=hdiv (by omega);by_cases ht:w (prim (Q rs))<0
   ·rcases hcom with h | h
    ·exact .inl (Xn rs _ _ _ _ _ (by rw[decide_eq_false_iff_not,N];omega) (by rw[decide_eq_false_iff_not,N];omega) p1' (q1 ht) hder' h hdiv)
    ·exact .inl (Xp rs _ _ _ _ _ (by rw[decide_eq_false_iff_not,N];omega) (by rw[decide_eq_false_iff_not,N];omega) p1' (q1 ht) hder' h hdiv)
   ·rw[hpp ht] at *
    rcases hcom with h | h
    ·exact .inl (Xr rs _ _ _ _ (by rw[decide_eq_false_iff_not,N];omega) (by rw[decide_eq_false_iff_not,N];omega) p1' (q2 ht) hder' h hdiv)
    ·exact .inl (Xu rs _ _ _ _ (by rw[decide_eq_false_iff_not,N];omega) (by rw[decide_eq_false_iff_not,N];omega) p1' (q2 ht) hder' h hdiv)
def fI(p:LI):AV := H (p.map cn).length (pc (p.map cn))
def plF(p:LI):AV := L 2 (p.map cn).length (pc (p.map cn))
theorem E7{f:Nat}{args:List AV}{X:LI}(h:RQ f args (L 2 X.length (pk X))):RQ f args (L 2 (X.map cn).length (pc (X.map cn))):=by
 rw[N];exact h
theorem fJ(p:LI):P ((p.map cn).getD (p.length-1) z0)=w p:=Gf p (p.length-1)
theorem Nf{p:LI}{K:Nat}(hk:Kb K p)(hL:BZ p)(hK:K<=1048576)(hN:p.length<=1048576) :
  (w p<0->RQ 120 [fI p] (plF (z p)))/\(¬ w p<0->RQ 120 [fI p] (fI p)):=by
 have hg:∀ r∈p.map cn,AO 1048576 r:=fun r hr=>(AW hk r hr).mono hK;have hlm:(p.map cn).length=p.length:=N ..;by_cases h0:0<p.length
 ·have e1:I O ((((p.map cn).length:Nat):Int)-1)=((p.length-1:Nat):Int):=by rw[hlm,Bl (by omega) (by omega)];omega
  obtain⟨g1,g2⟩:=Bg hg (p.length-1);have hs:=Gx (neg:=((p.map cn).getD (p.length-1) z0).1) g1 g2;have ht:P ((p.map cn).getD (p.length-1) z0)=w p:=fJ p;rw[show rv ((p.map cn).getD (p.length-1) z0).1 ((p.map cn).getD (p.length-1) z0).2=w p from ht] at hs;refine⟨fun h => ?_,fun h => ?_⟩
  ·have hn:=Yz hg (by omega);rw[v,HP hL] at hn;have e:z p=Cc p:=by unfold z;rw[if_pos h]
   unfold fI plF;rw[e];exact mX _ _ (by rw[decide_eq_true_eq];omega) (by rw[e1,R,ht,decide_eq_true_eq];unfold BJ;rw[if_pos h];decide) (by rw[e1];omega) (by rw[e1,R,ht];exact hs) (E7 hn)
  ·exact mY _ (by rw[decide_eq_true_eq];omega) (by rw[e1,R,ht,decide_eq_false_iff_not];unfold BJ;rw[if_neg h];split <;> decide) (by rw[e1];omega) (by rw[e1,R,ht];exact hs)
 ·have hz:p=[]:=A9 (by omega);subst hz;refine⟨fun h=>absurd h (by decide),fun _=>mZ [] (by decide)⟩
theorem oD(n:Int):P (false,(cn n).2)=(n.natAbs:Int):=by
 show rv false (M n.natAbs)=_;unfold rv;rw[Cr];simp
theorem Ww{x y:Rn}{J K:Nat}(hx:AO J x)(hy:AO K y)(h:J+K<=1048576):RQ 96 [o [D x.1,H x.2.length (lm x.2)],As y] (Ah (P x*P y)):=Of hx.1 hy.1 (by have:=hx.2;have:=hy.2;omega)
theorem Atw{x y:Rn}{J K:Nat}(hx:AO J x)(hy:AO K y)(h:J<1048576)(h2:K<1048576):RQ 129 [As x,As y] (Ah (P x-P y)):=To hx.1 hy.1 (by have:=hx.2;omega) (by have:=hy.2;omega)
def N3(p d:LI)(a b:Int)(j:Nat):Int:=if p.length-d.length<=j then a*p.getD j 0-b*d.getD (j-(p.length-d.length)) 0 else a*p.getD j 0
theorem fK(p d:LI)(a b:Int)(n:Nat):((Aq n).map fun j=>cn (N3 p d a b j))=(C9 p d a b n).map cn:=by
 unfold C9 N3;rw[Awk];rfl
section
variable {p d:LI} {J Kd:Nat}
theorem Rs{b:Int}(hp:Kb J p)(hd:Kb Kd d)(hb:Bm J b)(hS:J+Kd+1<1000000)(hd0:d ≠ [])(hl:d.length<=p.length)(hN:p.length<=1048576) :
  Ar (.loop La) (Gy (p.map cn) (d.map cn) (cn (w d)) (cn b) ((p.length-d.length:Nat):Int) 0 [] 0) (.exit 2)
   (Gy (p.map cn) (d.map cn) (cn (w d)) (cn b) ((p.length-d.length:Nat):Int) (p.length-1) (pc ((C9 p d ((w d).natAbs:Int) b (p.length-1)).map cn)) ((p.length-1:Nat):Int)):=by
 have hdl:=An.2 hd0;have hlm:(p.map cn).length=p.length:=N ..;have hld:(d.map cn).length=d.length:=N ..;have e1:I O ((((p.map cn).length:Nat):Int)-1)=((p.length-1:Nat):Int):=by rw[hlm,Bl (by omega) (by omega)];omega
 have h:=Cv.up (prog:=AY) (c:=La) (ex := .exit 2) (fin:=Gy (p.map cn) (d.map cn) (cn (w d)) (cn b) ((p.length-d.length:Nat):Int) (p.length-1) (pc ((C9 p d ((w d).natAbs:Int) b (p.length-1)).map cn)) ((p.length-1:Nat):Int))
  (fun i=>Gy (p.map cn) (d.map cn) (cn (w d)) (cn b) ((p.length-d.length:Nat):Int) i (pc ((Aq i).map fun j=>cn (N3 p d ((w d).natAbs:Int) b j))) (i:Nat)) (p.length-1) (by nofun) ?_ ?_ 0 (Ba _)
 ·exact h
 ·intro i hi;have ei:I O ((i:Int)+1)=((i+1:Nat):Int):=by rw[Bl (by omega) (by omega)];omega
  have gp:=Bg (AW hp) i;have ga:AO Kd (false,(cn (w d)).2):=by
   have:=BG (EB hd);exact⟨this.1,this.2⟩
  have gb:=BG hb;have vi:=Gf p i;have m1:=Ww ga gp (by omega);have va:=oD (w d);by_cases hat:p.length-d.length<=i
  ·have ea:I O ((i:Int)-((p.length-d.length:Nat):Int))=((i-(p.length-d.length):Nat):Int):=by rw[Bl (by omega) (by omega)];omega
   have gq:=Bg (AW hd) (i-(p.length-d.length));have vq:=Gf d (i-(p.length-d.length));have m2:=Ww gb gq (by omega);have f1:Bm (Kd+J) (P (false,(cn (w d)).2)*P ((p.map cn).getD i z0)):=ga.fits.mul gp.fits;have f2:Bm (J+Kd) (P (cn b)*P ((d.map cn).getD (i-(p.length-d.length)) z0)):=gb.fits.mul gq.fits;have m3:=Atw (BG f1) (BG f2) (by omega) (by omega);rw[u (P (false,(cn (w d)).2)*_),u (P (cn b)*P ((d.map cn).getD (i-(p.length-d.length)) z0))] at m3;have k:=zW (p.map cn) (d.map cn) (cn (w d)) (cn b) ((p.length-d.length:Nat):Int) i (pc ((Aq i).map fun j=>cn (N3 p d ((w d).natAbs:Int) b j))) (i:Nat) (by rw[e1,decide_eq_true_eq];omega) (by rw[decide_eq_true_eq];omega) (by omega) (by rw[ea];omega) (by omega)
    (by rw[R];exact m1) (by rw[ea,R];exact m2) (by rw[ea,R,R];exact m3)
   refine k.to rfl ?_;rw[ea,R,R,ei];rw[<- G0 (N3 p d ((w d).natAbs:Int) b) i];unfold N3;rw[if_pos hat,va,vi,u,vq]
  ·have k:=zX (p.map cn) (d.map cn) (cn (w d)) (cn b) ((p.length-d.length:Nat):Int) i (pc ((Aq i).map fun j=>cn (N3 p d ((w d).natAbs:Int) b j))) (i:Nat) (by rw[e1,decide_eq_true_eq];omega) (by rw[decide_eq_false_iff_not];omega) (by omega) (by omega)
    (by rw[R];exact m1)
   refine k.to rfl ?_;rw[R,ei];rw[<- G0 (N3 p d ((w d).natAbs:Int) b) i];unfold N3;rw[if_neg hat,va,vi]
 ·show Cv _ _ (Gy _ _ _ _ _ _ (pc ((Aq (p.length-1)).map fun j=>cn (N3 p d ((w d).natAbs:Int) b j))) _) _ _;rw[fK];exact zY _ _ _ _ _ _ _ _ (by rw[e1,decide_eq_false_iff_not];omega)
theorem fL(hp:Kb J p)(hd:Kb Kd d)(hS:J+Kd+1<1000000)(hd0:d ≠ [])(hl:d.length<=p.length)(hN:p.length<=1048576) :
  Ar PL (JG (p.map cn) (d.map cn) (cn (w d))) .norm (JG ((DH p d).map cn) (d.map cn) (cn (w d))):=by
 have hdl:=An.2 hd0;have hlm:(p.map cn).length=p.length:=N ..;have hld:(d.map cn).length=d.length:=N ..;have e1:I O ((((p.map cn).length:Nat):Int)-1)=((p.length-1:Nat):Int):=by rw[hlm,Bl (by omega) (by omega)];omega
 have e2:I O ((((p.map cn).length:Nat):Int)-(((d.map cn).length:Nat):Int))=((p.length-d.length:Nat):Int):=by rw[hlm,hld,Bl (by omega) (by omega)];omega
 have gt:=BG (EB hd);have gl:=Bg (AW hp) (p.length-1);have vl:=fJ p;have hs:=Gx (neg:=(cn (w d)).1) gt.1 (by have:=gt.2;omega);rw[show rv (cn (w d)).1 (cn (w d)).2=w d from u _] at hs;have hT:∀ b,Bm J b->b=sg (w d)*w p->RQ 46 [H (p.length-1) (pc ((C9 p d ((w d).natAbs:Int) b (p.length-1)).map cn))] (L 2 ((Aa (C9 p d ((w d).natAbs:Int) b (p.length-1))).map cn).length (pc ((Aa (C9 p d ((w d).natAbs:Int) b (p.length-1))).map cn)))
   /\ RQ 86 [H ((Aa (C9 p d ((w d).natAbs:Int) b (p.length-1))).map cn).length (pc ((Aa (C9 p d ((w d).natAbs:Int) b (p.length-1))).map cn))] (L 2 ((DH p d).map cn).length (pc ((DH p d).map cn))):=by
  intro b fb hb;have kE:Kb (J+Kd+1) (C9 p d ((w d).natAbs:Int) b (p.length-1)):=Rh hp hd (OV (EB hd)) fb _;have hlE:=El p d ((w d).natAbs:Int) b (p.length-1);have htl:=Bq (C9 p d ((w d).natAbs:Int) b (p.length-1));refine⟨?_,?_⟩
  ·have h:=ET (rs:=(C9 p d ((w d).natAbs:Int) b (p.length-1)).map cn) (fun r hr=>(AW kE r hr).mono (by omega)) (by rw[N];omega);(first|rw[v,N,hlE] at h|(rw[v] at h;unfold sL at h;rw[N,hlE] at h));exact E7 h
  ·have h:=HN (rs:=(Aa (C9 p d ((w d).natAbs:Int) b (p.length-1))).map cn) (AW kE.trim) (by omega) (by rw[N];omega);rw[v] at h;have e:prim (Aa (C9 p d ((w d).natAbs:Int) b (p.length-1)))=DH p d:=by
    rw[Wf hd0 hl,<- hb];exact Ml (Dc _)
   rw[e] at h;exact E7 h
 by_cases hneg:w d<0
 ·have hng:=Ss (neg:=((p.map cn).getD (p.length-1) z0).1) gl.1 (by have:=gl.2;omega);rw[show rv ((p.map cn).getD (p.length-1) z0).1 ((p.map cn).getD (p.length-1) z0).2=w p from vl] at hng;have hb : -(w p)=sg (w d)*w p:=by unfold sg;rw[if_pos hneg];omega
  obtain⟨t1,t2⟩:=hT _ (EB hp).neg hb;exact Aso (p.map cn) (d.map cn) (cn (w d)) ((C9 p d ((w d).natAbs:Int) (-(w p)) (p.length-1)).map cn) _ _ (p.length-1) ((p.length-1:Nat):Int) (by rw[decide_eq_true_eq];omega) (by rw[u,decide_eq_true_eq];unfold BJ;rw[if_pos hneg];decide) (by rw[e1];omega) (by rw[u];exact hs) (by rw[e1,R,vl];exact hng)
   (by rw[e1,e2,R,vl];exact Rs hp hd (EB hp).neg hS hd0 hl hN) t1 t2
 ·have hb:w p=sg (w d)*w p:=by unfold sg;rw[if_neg hneg];omega
  obtain⟨t1,t2⟩:=hT _ (EB hp) hb;have hu:(p.map cn).getD (p.length-1) z0=cn (w p):=Fh (by omega);exact Asp (p.map cn) (d.map cn) (cn (w d)) ((C9 p d ((w d).natAbs:Int) (w p) (p.length-1)).map cn) _ _ (p.length-1) ((p.length-1:Nat):Int) (by rw[decide_eq_true_eq];omega) (by rw[u,decide_eq_false_iff_not];unfold BJ;rw[if_neg hneg];split <;> decide) (by rw[e1];omega) (by rw[u];exact hs)
   (by rw[e1,e2,R,hu];exact Rs hp hd (EB hp) hS hd0 hl hN) t1 t2
end
theorem fM{d:LI}{Kd:Nat}(hd:Kb Kd d)(hd0:d ≠ []):∀ (f:Nat) (p:LI) (J:Nat),p.length<=f->Kb J p->J+(p.length+1-d.length)*(Kd+1)<1000000->p.length<=1048576 ->
  Ar (.loop PL) (JG (p.map cn) (d.map cn) (cn (w d))) (.exit 0) (JG ((Eb f p d).map cn) (d.map cn) (cn (w d))):=by
 have hdl:=An.2 hd0;intro f;induction f with
 | zero =>
  intro p J hf _ _ _;exact Ao (eH (p.map cn) (d.map cn) (cn (w d)) (by rw[decide_eq_false_iff_not,N,N];omega)) (by nofun)
 | succ f ih =>
  intro p J hf hJ hS hN;simp only[Eb];split
  ·rename_i hl;have hplen:=Jh hd0 hl;have e:((DH p d).length+1-d.length)+1<=p.length+1-d.length:=by omega
   have:=AF (Kd+1) e;rw[D',Fk] at this;have h1:=fL hJ hd (by
    have h2:1*(Kd+1)<=(p.length+1-d.length)*(Kd+1):=AF _ (by omega);omega) hd0 hl hN
   exact Cv.loop h1 (ih (DH p d) (J+Kd+1) (by omega) (Sy hJ hd) (by omega) (by omega))
  ·rename_i hl;exact Ao (eH (p.map cn) (d.map cn) (cn (w d)) (by rw[decide_eq_false_iff_not,N,N];omega)) (by nofun)
theorem ZH{x y:LI}(hy:Aa y ≠ []):Bt x (Aa y)=Bt x (prim y):=by
 unfold Bt;rw[<- Lp y,ZA (by have:=IQ hy;omega)]
theorem Qm{rs ss:List Rn}{J K:Nat}(hr:∀ r∈rs,AO J r)(hs:∀ r∈ss,AO K r)(hJ:J<1000000)(hK:K<1000000)(hn:rs.length<=1048576)(hm:ss.length<=1048576)(h0:Aa (Q ss) ≠ [])(hS:J+((Aa (Q rs)).length+1-(Aa (Q ss)).length)*(K+1)<1000000) :
  RQ 119 [sL pc rs,sL pc ss] (fI (Bt (prim (Q rs)) (prim (Q ss)))):=by
 have p1:=HN hr hJ hn;have p2:=ET (fun r h=>(hs r h).mono (show K<=1048576 by omega)) hm;have k1:Kb J (prim (Q rs)):=(Iy (C1 hr)).prim;have k2:Kb K (Aa (Q ss)):=(Iy (C1 hs)).trim;have l1:(prim (Q rs)).length<=rs.length:=by rw[BN];have:=Bq (Q rs);rwa [s] at this
 have l2:(Aa (Q ss)).length<=ss.length:=by have:=Bq (Q ss);rwa [s] at this
 have hl:=An.2 h0;have hlp:=fM k2 h0 (prim (Q rs)).length (prim (Q rs)) J (Ap _) k1 (by rw[BN];exact hS) (by omega);have e1:I O (((((Aa (Q ss)).map cn).length:Nat):Int)-1)=(((Aa (Q ss)).length-1:Nat):Int):=by rw[N,Bl (by omega) (by omega)];omega
 rw[<- ZH h0];exact Asq rs ss _ _ ((Bt (prim (Q rs)) (Aa (Q ss))).map cn) (cn (w (Aa (Q ss)))) (E7 p1) (E7 p2) (by rw[e1,N];omega) (by
  rw[e1,R,Fh (show (Aa (Q ss)).length-1<(Aa (Q ss)).length by omega)];exact hlp)
theorem Wx:∀ (f:Nat) (x y:LI) (M:Nat),0<M->y.length<=f->y.length<=x.length->x.length<=1048576->prim x=x->prim y=y->Kb (M-1) x->Kb (M-1) y->M*IS x.length y.length<=500000 ->
  ∃ bs,Ar (.loop PH) (JH (x.map cn) (y.map cn)) (.exit 0) (JH ((GW f x y).map cn) bs):=by
 intro f;induction f with
 | zero =>
  intro x y M _ h1 _ _ _ _ _ _ _;have:y=[]:=A9 (by omega);subst this;exact⟨_,Ao (eJ _ _ (by simp)) (by nofun)⟩
 | succ f ih =>
  intro x y M hM h1 h2 h3 px py kx ky hphi;simp only[GW];split
  ·rename_i h;subst h;exact⟨_,Ao (eJ _ _ (by simp)) (by nofun)⟩
  ·rename_i h;have hyl:=An.2 h;obtain⟨r1,r2,r3⟩:=Kw hM (Cq px) h kx ky h2;have hM':0<M*(x.length-y.length+2):=Es hM (by omega);have hMle:M<=M*(x.length-y.length+2):=BP M (by omega);have hbig:M*(x.length-y.length+2)<=500000:=by
    refine Be (AL _ ?_) hphi;unfold IS;exact BP _ (BS (by decide))
   have hrem:=Qm (rs:=x.map cn) (ss:=y.map cn) (AW kx) (AW ky) (by omega) (by omega) (by rw[N];exact h3) (by rw[N];omega) (by rw[v,Cq py];exact h) (by
    rw[v,v,Cq px,Cq py,Lq hM,show x.length+1-y.length=x.length-y.length+1 by omega,CS _ M];have:M*(x.length-y.length+2)=M*(x.length-y.length+1)+M:=by rw[<- Pf]
    omega)
   rw[v,v,px,py] at hrem;have k:=eI (x.map cn) (y.map cn) _ (by simp;omega) hrem;obtain⟨bs,hb⟩:=ih y (Bt x y) (M*(x.length-y.length+2)) hM' (by omega) (by omega) (by omega) py (HY _ _ _ px) (ky.mono (by omega)) r3 (Kx r2 hphi);exact⟨bs,Cv.loop k hb⟩
theorem P5{rs ss:List Rn}{g:LI}{bs:List Rn}{K:Nat}(hr:∀ r∈rs,AO K r)(hs:∀ r∈ss,AO K r)(hK:K<1000000)(hn:rs.length<=1048576)(hm:ss.length<=1048576){Kg:Nat}(hg:Kb Kg g)(hgL:BZ g)(hKg:Kg<=1048576)(hgl:g.length<=1048576)
  (hl:Ar (.loop PH) (JH ((prim (Q rs)).map cn) ((prim (Q ss)).map cn)) (.exit 0) (JH (g.map cn) bs)) :
  Nc 70 [sL pc rs,sL pc ss] (z g):=by
 have p1:=HN hr hK hn;have p2:=HN hs hK hm;obtain⟨q1,q2⟩:=Nf hg hgL hKg hgl;by_cases h:w g<0
 ·exact .inl (zZ rs ss _ _ (g.map cn) bs _ (E7 p1) (E7 p2) hl (q1 h))
 ·rw[OY h];exact .inr (Aaa rs ss _ _ (g.map cn) bs (E7 p1) (E7 p2) hl (q2 h))
theorem Ru{rs ss:List Rn}{K c:Nat}(hr:∀ r∈rs,AO K r)(hs:∀ r∈ss,AO K r)(hn:rs.length<=c)(hm:ss.length<=c)(hc:c<=1048576)(hS:(K+1)*(2*3^c)<=500000) :
  Nc 70 [sL pc rs,sL pc ss] (z (Lt (prim (Q rs)) (prim (Q ss)))):=by
 have h3:0<3^c:=BS (by decide);have hK:K+1<=500000:=by
  have:(K+1)*1<=(K+1)*(2*3^c):=AL _ (by omega);omega
 have k1:Kb K (prim (Q rs)):=(Iy (C1 hr)).prim;have k2:Kb K (prim (Q ss)):=(Iy (C1 hs)).prim;have l1:(prim (Q rs)).length<=rs.length:=by rw[BN];have:=Bq (Q rs);rwa [s] at this
 have l2:(prim (Q ss)).length<=ss.length:=by rw[BN];have:=Bq (Q ss);rwa [s] at this
 unfold Lt;split
 ·rename_i hl;have hphi:(K+1)*IS (prim (Q rs)).length (prim (Q ss)).length<=500000:=Be (AL _ (Ow hl (by omega))) hS;obtain⟨bs,hb⟩:=Wx (prim (Q ss)).length (prim (Q rs)) (prim (Q ss)) (K+1) (by omega) (Ap _) hl (by omega) (BU _) (BU _) k1 k2 hphi;obtain⟨s1,s2⟩:=Lv (prim (Q ss)).length (prim (Q rs)) (prim (Q ss)) (K+1) (by omega) (Ap _) hl (BX _) (BX _) k1 k2;exact P5 hr hs (by omega) (by omega) (by omega) s1 (Cq (Lu _ _ _ (BU _) (BU _))) (by omega) (by omega) hb
 ·rename_i hl;have hphi:(K+1)*IS (prim (Q ss)).length (prim (Q rs)).length<=500000:=Be (AL _ (Ow (by omega) (by omega))) hS;obtain⟨bs,hb⟩:=Wx (prim (Q rs)).length (prim (Q ss)) (prim (Q rs)) (K+1) (by omega) (Ap _) (by omega) (by omega) (BU _) (BU _) k2 k1 hphi;obtain⟨s1,s2⟩:=Lv (prim (Q rs)).length (prim (Q ss)) (prim (Q rs)) (K+1) (by omega) (Ap _) (by omega) (BX _) (BX _) k2 k1;have hy0:prim (Q ss) ≠ []:=by intro h;rw[h] at hl;simp at hl
  have hsw:Bt (prim (Q rs)) (prim (Q ss))=prim (Q rs):=by
   unfold Bt;cases hx:(prim (Q rs)).length with
   | zero=>rfl
   | succ n=>simp only[Eb];rw[if_neg hl]
  have hrem:=Qm (rs:=(prim (Q rs)).map cn) (ss:=(prim (Q ss)).map cn) (AW k1) (AW k2) (by omega) (by omega) (by rw[N];omega) (by rw[N];omega) (by rw[v,BX];exact hy0) (by
   rw[v,v,BX,BX,show (prim (Q rs)).length+1-(prim (Q ss)).length=0 by omega,SX];omega)
  rw[v,v,BU,BU,hsw] at hrem;have k:=eI ((prim (Q rs)).map cn) ((prim (Q ss)).map cn) _ (by rw[decide_eq_true_eq,N];omega) hrem;exact P5 hr hs (by omega) (by omega) (by omega) s1 (Cq (Lu _ _ _ (BU _) (BU _))) (by omega) (by omega) (Cv.loop k hb)
section
variable {p d:LI} {J Kd:Nat}
theorem Atx{t:Int}{l:Rn}{rs ds:List Rn}{q:Int}(hp:Kb J p)(ht:Bm Kd t)(hS:J+Kd<1000000)(hN:p.length<=1048576) :
  Ar (.loop OI) (Jg rs ds (cn t) p.length (p.map cn) l q 0) (.exit 2) (Jg rs ds (cn t) p.length ((Ay t p).map cn) l q (p.length:Nat)):=by
 have hE:((Ay t p).map cn).length=(p.map cn).length:=by rw[N,N,Bc]
 have hpl:(p.map cn).length=p.length:=N ..;have h:=Cv.up (prog:=AY) (c:=OI) (ex := .exit 2) (fin:=Jg rs ds (cn t) p.length ((Ay t p).map cn) l q (p.length:Nat))
  (fun i=>Jg rs ds (cn t) p.length (FC ((Ay t p).map cn) (p.map cn) i) l q (i:Nat)) p.length (by nofun) ?_ ?_ 0 (Ba _)
 ·rw[Na] at h;exact h
 ·intro i hi;have ei:I O ((i:Int)+1)=((i+1:Nat):Int):=by rw[Bl (by omega) (by omega)];omega
  have hml:=Ho hE i;have hget:=Mq hE (i:=i) (by omega);have hEi:((Ay t p).map cn).getD i z0=cn ((Ay t p).getD i 0):=Fh (by rw[Bc];exact hi);have hset:=Mr hE (i:=i) (by omega);rw[hEi,AR] at hset;have gp:=Bg (AW hp) i;have gt:=BG ht;have vi:=Gf p i;have m1:=Ww gp gt (by omega);generalize FC ((Ay t p).map cn) (p.map cn) i=M at *
  have k:=Aab rs ds (cn t) p.length M l q (i:Nat) (by simp;omega) (by omega) (by omega) (by rw[R,hget];exact m1);refine k.to rfl ?_;simp only[ei,R,hget];rw[vi,u,AA,hset]
 ·rw[show FC ((Ay t p).map cn) (p.map cn) p.length=(Ay t p).map cn by have h:=Nb hE;rw[hpl] at h;exact h];exact Aac _ _ _ _ _ _ _ _ (by simp)
theorem Aty{b:Int}{k:Nat}{os:List Rn}(hp:Kb J p)(hd:Kb Kd d)(hb:Bm J b)(hS:J+Kd+1<1000000)(hd0:d ≠ [])(hl:d.length<=p.length)(hN:p.length<=1048576) :
  Ar (.loop MB) (Hm (p.map cn) (d.map cn) (cn (w d)) k os (cn b) ((p.length-d.length:Nat):Int) 0 [] 0) (.exit 4)
   (Hm (p.map cn) (d.map cn) (cn (w d)) k os (cn b) ((p.length-d.length:Nat):Int) (p.length-1) (pc ((C9 p d (w d) b (p.length-1)).map cn)) ((p.length-1:Nat):Int)):=by
 have hdl:=An.2 hd0;have hlm:(p.map cn).length=p.length:=N ..;have hld:(d.map cn).length=d.length:=N ..;have e1:I O ((((p.map cn).length:Nat):Int)-1)=((p.length-1:Nat):Int):=by rw[hlm,Bl (by omega) (by omega)];omega
 have h:=Cv.up (prog:=AY) (c:=MB) (ex := .exit 4) (fin:=Hm (p.map cn) (d.map cn) (cn (w d)) k os (cn b) ((p.length-d.length:Nat):Int) (p.length-1) (pc ((C9 p d (w d) b (p.length-1)).map cn)) ((p.length-1:Nat):Int))
  (fun i=>Hm (p.map cn) (d.map cn) (cn (w d)) k os (cn b) ((p.length-d.length:Nat):Int) i (pc ((Aq i).map fun j=>cn (N3 p d (w d) b j))) (i:Nat)) (p.length-1) (by nofun) ?_ ?_ 0 (Ba _)
 ·exact h
 ·intro i hi;have ei:I O ((i:Int)+1)=((i+1:Nat):Int):=by rw[Bl (by omega) (by omega)];omega
  have gp:=Bg (AW hp) i;have ga:=BG (EB hd);have gb:=BG hb;have vi:=Gf p i;have m1:=Ww ga gp (by omega);have va:=u (w d);by_cases hat:p.length-d.length<=i
  ·have ea:I O ((i:Int)-((p.length-d.length:Nat):Int))=((i-(p.length-d.length):Nat):Int):=by rw[Bl (by omega) (by omega)];omega
   have gq:=Bg (AW hd) (i-(p.length-d.length));have vq:=Gf d (i-(p.length-d.length));have m2:=Ww gb gq (by omega);have f1:Bm (Kd+J) (P (cn (w d))*P ((p.map cn).getD i z0)):=ga.fits.mul gp.fits;have f2:Bm (J+Kd) (P (cn b)*P ((d.map cn).getD (i-(p.length-d.length)) z0)):=gb.fits.mul gq.fits;have m3:=Atw (BG f1) (BG f2) (by omega) (by omega);rw[u (P (cn (w d))*_),u (P (cn b)*P ((d.map cn).getD (i-(p.length-d.length)) z0))] at m3;have k:=Aad (p.map cn) (d.map cn) (cn (w d)) k os (cn b) ((p.length-d.length:Nat):Int) i (pc ((Aq i).map fun j=>cn (N3 p d (w d) b j))) (i:Nat) (by rw[e1,decide_eq_true_eq];omega) (by rw[decide_eq_true_eq];omega) (by omega) (by rw[ea];omega) (by omega)
    (by rw[R];exact m1) (by rw[ea,R];exact m2) (by rw[ea,R,R];exact m3)
   refine k.to rfl ?_;rw[ea,R,R,ei];rw[<- G0 (N3 p d (w d) b) i];unfold N3;rw[if_pos hat,va,vi,u,vq]
  ·have k:=Aae (p.map cn) (d.map cn) (cn (w d)) k os (cn b) ((p.length-d.length:Nat):Int) i (pc ((Aq i).map fun j=>cn (N3 p d (w d) b j))) (i:Nat) (by rw[e1,decide_eq_true_eq];omega) (by rw[decide_eq_false_iff_not];omega) (by omega) (by omega)
    (by rw[R];exact m1)
   refine k.to rfl ?_;rw[R,ei];rw[<- G0 (N3 p d (w d) b) i];unfold N3;rw[if_neg hat,va,vi]
 ·show Cv _ _ (Hm _ _ _ _ _ _ _ _ (pc ((Aq (p.length-1)).map fun j=>cn (N3 p d (w d) b j))) _) _ _;rw[fK];exact Aaf _ _ _ _ _ _ _ _ _ _ (by rw[e1,decide_eq_false_iff_not];omega)
end
theorem fN{d:LI}{Kd:Nat}(hd:Kb Kd d)(hd0:d ≠ []):∀ (f:Nat) (r out:LI) (J:Nat),r.length<=f->Kb J r->Kb J out->J+(r.length+1-d.length)*(Kd+1)<1000000->r.length+1<=out.length+d.length->out.length<=1048576->r.length<=1048576 ->
  (∃ r',Ar (.loop Vc) (Qh (r.map cn) (d.map cn) (cn (w d)) out.length (out.map cn)) (.exit 0) (Qh r' (d.map cn) (cn (w d)) out.length ((KG d f r out).map cn)))/\Kb (J+(r.length+1-d.length)*(Kd+1)) (KG d f r out)/\(KG d f r out).length=out.length:=by
 have hdl:=An.2 hd0;have hld:(d.map cn).length=d.length:=N ..;intro f;induction f with
 | zero =>
  intro r out J hf _ ho _ _ _ _;exact⟨⟨_,Ao (eL (r.map cn) (d.map cn) (cn (w d)) out.length (out.map cn) (by rw[decide_eq_false_iff_not,N,N];omega)) (by nofun)⟩,ho.mono (Pg _ _),rfl⟩
 | succ f ih =>
  intro r out J hf hJ ho hS hlo hN1 hN;have hlm:(r.map cn).length=r.length:=N ..;simp only[KG];split
  ·rename_i hl;have e1:I O ((((r.map cn).length:Nat):Int)-1)=((r.length-1:Nat):Int):=by rw[hlm,Bl (by omega) (by omega)];omega
   have e2:I O ((((r.map cn).length:Nat):Int)-(((d.map cn).length:Nat):Int))=((r.length-d.length:Nat):Int):=by rw[hlm,hld,Bl (by omega) (by omega)];omega
   have hlen:=Mn hd0 hl;have e:((Aa (C9 r d (w d) (w r) (r.length-1))).length+1-d.length)+1<=r.length+1-d.length:=by omega
   have hmul:=AF (Kd+1) e;rw[D',Fk] at hmul;have hsz:J+Kd+1<1000000:=by omega
   have kE:Kb (J+Kd+1) (C9 r d (w d) (w r) (r.length-1)):=Rh hJ hd (EB hd) (EB hJ) _;have hlE:=El r d (w d) (w r) (r.length-1);have hps:=S6 ho (EB hd);have ht:=ET (rs:=(C9 r d (w d) (w r) (r.length-1)).map cn) (fun x hx=>(AW kE x hx).mono (by omega)) (by rw[N];omega);(first|rw[v,N,hlE] at ht|(rw[v] at ht;unfold sL at ht;rw[N,hlE] at ht));have hu:(r.map cn).getD (r.length-1) z0=cn (w r):=Fh (by omega);have hset:((Ay (w d) out).map cn).set (r.length-d.length) (cn (w r))=((Ay (w d) out).set (r.length-d.length) (w r)).map cn:=by rw[Awj]
   obtain⟨⟨r',hr'⟩,kb,len⟩:=ih (Aa (C9 r d (w d) (w r) (r.length-1))) ((Ay (w d) out).set (r.length-d.length) (w r)) (J+Kd+1) (by omega) kE.trim (sM (hps.mono (by omega)) ((EB hJ).mono (by omega)) _) (by omega) (by rw[A',Bc];omega) (by rw[A',Bc];exact hN1) (by omega);rw[A',Bc] at hr' len;refine⟨⟨r',Cv.loop ?_ hr'⟩,kb.mono (by omega),len⟩;have k:=Asr (r.map cn) (d.map cn) (cn (w d)) out.length (out.map cn) ((Ay (w d) out).map cn) ((C9 r d (w d) (w r) (r.length-1)).map cn) _ (r.length-1) (out.length:Nat) ((r.length-1:Nat):Int) (by rw[decide_eq_true_eq];omega) (by rw[e1];omega)
    (by rw[e1,e2,R,hu];exact Atx ho (EB hd) (by omega) hN1) (by rw[e2];omega) (by rw[N,Bc])
    (by rw[e1,e2,R,R,hu];exact Aty hJ hd (EB hJ) hsz hd0 hl hN) (E7 ht)
   rw[e1,e2,R,R,hu,hset] at k;exact k
  ·rename_i hl;exact⟨⟨_,Ao (eL (r.map cn) (d.map cn) (cn (w d)) out.length (out.map cn) (by rw[decide_eq_false_iff_not,N,N];omega)) (by nofun)⟩,ho.mono (Pg _ _),rfl⟩
theorem oF{p q:LI}{J K:Nat}(hp:Kb J p)(hq:Kb K q)(lp:BZ p)(lq:BZ q)(hq0:q ≠ [])(tq:0<w q)(tp:0<w p)(hl:q.length<=p.length)(hN:p.length<=1000000)(hS:J+(p.length+1-q.length)*(K+1)<1000000) :
  RQ 123 [H (p.map cn).length (pc (p.map cn)),H (q.map cn).length (pc (q.map cn))] (fI (prim (KG q p.length p (Av (p.length-q.length+1) 0)))):=by
 have hql:=An.2 hq0;have hlp:(p.map cn).length=p.length:=N ..;have hlq:(q.map cn).length=q.length:=N ..;have h1:1*(K+1)<=(p.length+1-q.length)*(K+1):=AF _ (by omega);have t1:=ET (rs:=p.map cn) (fun r h=>(AW hp r h).mono (show J<=1048576 by omega)) (by omega);have t2:=ET (rs:=q.map cn) (fun r h=>(AW hq r h).mono (show K<=1048576 by omega)) (by omega);rw[v,lp] at t1;rw[v,lq] at t2;have hz:(Av (p.length-q.length+1) (0:Int)).map cn=Av (p.length-q.length+1) z0:=by rw[A6z,Atv]
 obtain⟨⟨r',hlp2⟩,kb,len⟩:=fN hq hq0 p.length p (Av (p.length-q.length+1) 0) J (Ap _) hp (fun i=>by rw[DA];exact GS _) hS (by simp;omega) (by simp;omega) (by omega);rw[Fs] at hlp2 len;obtain⟨c',r1,a1,a2,_,a4⟩:=Ox (p:=p) hq0 tq hl;have tO:=Yv a1 tp hq0 tq hl len a4 a2;generalize KG q p.length p (Av (p.length-q.length+1) 0)=o at *
 have e1:I O ((((q.map cn).length:Nat):Int)-1)=((q.length-1:Nat):Int):=by rw[hlq,Bl (by omega) (by omega)];omega
 have e2:I O (I O ((((p.map cn).length:Nat):Int)-(((q.map cn).length:Nat):Int))+1)=((p.length-q.length+1:Nat):Int):=by
  rw[hlp,hlq,Bl (n:=(p.length:Int)-(q.length:Nat)) (by omega) (by omega),Bl (by omega) (by omega)];omega
 have t3:=ET (rs:=o.map cn) (fun r h=>(AW kb r h).mono (by omega)) (by rw[N];omega);(first|rw[v,N,len] at t3|(rw[v] at t3;unfold sL at t3;rw[N,len] at t3));have htl:=Bq o;have p3:=HN (rs:=(Aa o).map cn) (AW kb.trim) (by omega) (by rw[N];omega);rw[v,Ml (Dc o)] at p3;have hpl:(prim o).length<=o.length:=by rw[BN];exact htl
 have hps:=(Nf (p:=prim o) kb.prim (BX o) (by omega) (by omega)).2 (by have:=P1 tO;omega);exact Ass (p.map cn) (q.map cn) (p.map cn) (q.map cn) r' (o.map cn) _ _ (cn (w q)) (p.length-q.length+1) (E7 t1) (E7 t2) (by rw[e1,hlq];omega) (by rw[e2];omega)
  (by rw[e1,e2,R,R,Oc,<- hz,Fh (show q.length-1<q.length by omega)];exact hlp2) (E7 t3) (E7 p3) hps
theorem Abd{p:LI}{c:Int}(hc:0<c)(hp:prim p=p)(hl:1<=p.length):prim (KG [c] p.length p (Av (p.length-1+1) 0))=p:=by
 obtain⟨c',r',a1,a2,_,a4⟩:=Ox (p:=p) (d:=[c]) (by simp) (show 0<w [c] from hc) hl;have lq:BZ [c]:=Rg (.inr (by show c ≠ 0;omega));have h:=Rj a1 hc (Ri (o2:=p) (r2:=[]) (c2:=c) lq (by simp) a4 (fun x=>by simp[V]) a2 (fun i _=>rfl));rw[hp] at h;exact h
theorem Rv{rs:List Rn}{K c:Nat}(hr:∀ r∈rs,AO K r)(hn:rs.length<=c)(hc:c<=9)(hS:(K+3)*(2*3^c)<=500000):RQ 73 [sL pc rs] (fI (Ag (Q rs))):=by
 have h3:0<3^c:=BS (by decide);have hK:K+3<=250000:=by
  have:(K+3)*2<=(K+3)*(2*3^c):=AL _ (by omega);omega
 have p1:=E7 (HN hr (by omega) (by omega));have k1:Kb K (prim (Q rs)):=(Iy (C1 hr)).prim;have l1:(prim (Q rs)).length<=rs.length:=by rw[BN];have:=Bq (Q rs);rwa [s] at this
 obtain⟨q1,q2⟩:=Nf k1 (BX _) (by omega) (by omega);have ka:Kb K (z (prim (Q rs))):=by
  unfold z;split
  ·intro i;rw[GT];exact (k1 i).neg
  ·exact k1
 have la:=Kc (prim (Q rs));have lda:BZ (z (prim (Q rs))):=M_ (BX _);have hpp:(¬ w (prim (Q rs))<0)->z (prim (Q rs))=prim (Q rs):=OY;have hder:=Yy (rs:=(z (prim (Q rs))).map cn) (AW ka) (by omega) (by rw[N];omega);rw[v] at hder;have hder':=E7 hder;have kd:Kb (K+2) (At (z (prim (Q rs)))):=Wu ka (by omega);have ld:(At (z (prim (Q rs)))).length<=c:=by have:=S5 (z (prim (Q rs)));omega
 have hcom:=Ru (rs:=(z (prim (Q rs))).map cn) (ss:=(At (z (prim (Q rs)))).map cn) (K:=K+2) (c:=c) (fun r h=>(AW ka r h).mono (by omega)) (AW kd) (by rw[N];omega) (by rw[N];exact ld) (by omega) hS;rw[v,v] at hcom;change Nc 70 _ (Di (z (prim (Q rs))) (At (z (prim (Q rs))))) at hcom;have hover:2<=(z (prim (Q rs))).length->RQ 123 [H ((z (prim (Q rs))).map cn).length (pc ((z (prim (Q rs))).map cn)),H ((Di (z (prim (Q rs))) (At (z (prim (Q rs))))).map cn).length (pc ((Di (z (prim (Q rs))) (At (z (prim (Q rs))))).map cn))] (fI (Ag (Q rs))):=by
  intro h2;have hp0:Aa (Q rs) ≠ []:=by
   intro h0;have:prim (Q rs)=[]:=Ee.2 (C'.1 h0);rw[this] at h2;exact absurd h2 (by decide)
  obtain⟨a1,a2,a3,a4,_,_⟩:=Wv hp0;have hta:Aa (z (prim (Q rs))) ≠ []:=Fb a1 a2;obtain⟨b1,b2⟩:=fD (t:=At (z (prim (Q rs)))) hta (by omega) ka;rw[a1] at b2;have nG:=Mp (t:=At (z (prim (Q rs)))) hta;have lG:=KH (z (prim (Q rs))) (At (z (prim (Q rs))));have tG:=S4 (t:=At (z (prim (Q rs)))) hta;have h:=oF ka b1 lda lG nG tG a4 b2 (by omega) (by
   have h4:(z (prim (Q rs))).length+1-(Di (z (prim (Q rs))) (At (z (prim (Q rs))))).length<=10:=by omega
   have h5:=AF (K+3+1) h4;have h6:3^2<=3^c:=BF (by decide) (by omega);have h7:(K+3)*18<=(K+3)*(2*3^c):=AL _ (by omega);omega)
  have e:prim (KG (Di (z (prim (Q rs))) (At (z (prim (Q rs))))) (z (prim (Q rs))).length (z (prim (Q rs))) (Av ((z (prim (Q rs))).length-(Di (z (prim (Q rs))) (At (z (prim (Q rs))))).length+1) 0))=Ag (Q rs):=by
   unfold Ag;by_cases hg:(Di (z (prim (Q rs))) (At (z (prim (Q rs))))).length<2
   ·rw[if_pos (.inr hg)];have hgl:=An.2 nG;obtain⟨c,hc⟩:=Rq (show (Di (z (prim (Q rs))) (At (z (prim (Q rs))))).length=1 by omega);rw[hc] at tG |-;exact Abd tG (H9 a1 a3) (by omega)
   ·rw[if_neg (by omega)];exact (Atl lG nG tG b2).symm
  rw[e] at h;exact h
 by_cases hs:(z (prim (Q rs))).length<2
 ·have e:Ag (Q rs)=z (prim (Q rs)):=by unfold Ag;rw[if_pos (.inl hs)]
  rw[e];by_cases ht:w (prim (Q rs))<0
  ·exact Z1 rs _ _ (by rw[decide_eq_true_eq,N];omega) p1 (q1 ht)
  ·rw[hpp ht] at hs |-;exact Z5 rs _ (by rw[decide_eq_true_eq,N];omega) p1 (q2 ht)
 ·have hover:=hover (by omega);by_cases ht:w (prim (Q rs))<0
  ·rcases hcom with h | h
   ·exact Z2 rs _ _ _ _ _ (by rw[decide_eq_false_iff_not,N];omega) p1 (q1 ht) hder' h hover
   ·exact Z3 rs _ _ _ _ _ (by rw[decide_eq_false_iff_not,N];omega) p1 (q1 ht) hder' h hover
  ·rw[hpp ht] at *
   rcases hcom with h | h
   ·exact Z4 rs _ _ _ _ (by rw[decide_eq_false_iff_not,N];omega) p1 (q2 ht) hder' h hover
   ·exact Z6 rs _ _ _ _ (by rw[decide_eq_false_iff_not,N];omega) p1 (q2 ht) hder' h hover
def DN:Nat->LI->LI->List (LI)
 | 0,_,_=>[]
 | f+1,a,b=>if b=[] then [] else b::DN f b (Cc (Bt a b))
def B0(p:LI):List (LI):=if Ag p=[] then [] else Ag p::DN (Ag p).length (Ag p) (prim (At (Ag p)))
theorem JM{p:LI}(h:prim p=p):prim (Cc p)=Cc p:=by
 by_cases h0:p=[]
 ·subst h0;rfl
 ·have hl:BZ p:=Cq h;have h1:=KF (xs:=p) (by rw[hl];exact h0);rw[h] at h1;exact H9 (HP hl) (by rw[Wq];exact h1)
theorem Wy{K:Nat}{p:LI}(h:Kb K p):Kb K (Cc p):=fun i=>by rw [GT];exact (h i).neg
def Dj(l:List (LI)):List (List Rn):=l.map fun p=>p.map cn
theorem fO(ls:List (List Rn))(rs:List Rn):pp ls++([sL pc rs]:List AV)=pp (ls++[rs]):=by simp [pp]
def fP(p:LI):Prop:=Kb 500000 p/\p.length<=9/\BZ p
theorem ZI:∀ (f:Nat) (x y:LI) (M:Nat),0<M->y.length<=x.length->x.length<=9->prim x=x->prim y=y->Kb (M-1) x->Kb (M-1) y->M*IS x.length y.length<=500000 ->
  ∀ p∈DN f x y,fP p:=by
 intro f;induction f with
 | zero=>intro x y M _ _ _ _ _ _ _ _ p hp;cases hp
 | succ f ih =>
  intro x y M hM h2 h3 px py kx ky hphi p hp;simp only[DN] at hp;split at hp
  ·cases hp
  ·rename_i h;obtain⟨r1,r2,r3⟩:=Kw hM (Cq px) h kx ky h2;have hM':0<M*(x.length-y.length+2):=Es hM (by omega);have hMle:M<=M*(x.length-y.length+2):=BP M (by omega);have hb:M*1<=M*IS x.length y.length:=AL _ (by unfold IS;exact Es (by omega) (BS (by decide)));rcases D4.1 hp with rfl | hp
   ·exact⟨ky.mono (by omega),by omega,Cq py⟩
   ·exact ih y (Cc (Bt x y)) (M*(x.length-y.length+2)) hM' (by rw[DR];omega) (by omega) py (JM (HY _ _ _ px)) (ky.mono (by omega)) (Wy r3) (by rw[DR];exact Kx r2 hphi) p hp
theorem T7:∀ (f:Nat) (x y:LI),(DN f x y).length<=f
 | 0,_,_=>Ap _
 | f+1,x,y=>by
  simp only[DN];split
  ·simp
  ·have:=T7 f y (Cc (Bt x y));simp;omega
theorem fQ:∀ (f:Nat) (x y:LI) (M:Nat) (ls:List (List Rn)),0<M->y.length<=f->y.length<=x.length->x.length<=9->prim x=x->prim y=y->Kb (M-1) x->Kb (M-1) y->M*IS x.length y.length<=500000->ls.length+f<=1000 ->
  ∃ as' bs',Ar (.loop XO) (Pz (x.map cn) ls.length (pp ls) (y.map cn)) (.exit 0) (Pz as' (ls++Dj (DN f x y)).length (pp (ls++Dj (DN f x y))) bs'):=by
 intro f;induction f with
 | zero =>
  intro x y M ls _ h1 _ _ _ _ _ _ _ _;have:y=[]:=A9 (by omega);subst this;have e:ls++Dj (DN 0 x [])=ls:=by simp[Dj,DN]
  rw[e];exact⟨_,_,Ao (sG _ _ _ _ (by simp)) (by nofun)⟩
 | succ f ih =>
  intro x y M ls hM h1 h2 h3 px py kx ky hphi hls;simp only[DN];split
  ·rename_i h;subst h;have e:ls++Dj []=ls:=by simp[Dj]
   rw[e];exact⟨_,_,Ao (sG _ _ _ _ (by simp)) (by nofun)⟩
  ·rename_i h;have hyl:=An.2 h;obtain⟨r1,r2,r3⟩:=Kw hM (Cq px) h kx ky h2;have hM':0<M*(x.length-y.length+2):=Es hM (by omega);have hMle:M<=M*(x.length-y.length+2):=BP M (by omega);have hbig:M*(x.length-y.length+2)<=500000:=by
    refine Be (AL _ ?_) hphi;unfold IS;exact BP _ (BS (by decide))
   have hrem:=JL (rs:=x.map cn) (ss:=y.map cn) (AW kx) (AW ky) (by omega) (by omega) (by rw[N];omega) (by rw[N];omega) (by rw[v,py];exact h) (by
    rw[v,v,px,py,Lq hM,show x.length+1-y.length=x.length-y.length+1 by omega,CS _ M];have:M*(x.length-y.length+2)=M*(x.length-y.length+1)+M:=by rw[<- Pf]
    omega)
   rw[v,v,px,py] at hrem;have hneg:=KE (rs:=(Bt x y).map cn) (fun r hr=>(AW r3 r hr).mono (by omega)) (by rw[N];omega);rw[v] at hneg;have hneg':RQ 117 [H ((Bt x y).map cn).length (pc ((Bt x y).map cn))] (L 2 ((Cc (Bt x y)).map cn).length (pc ((Cc (Bt x y)).map cn))):=by
    have e:((Cc (Bt x y)).map cn).length=((Bt x y).map cn).length:=by rw[N,N,DR]
    rw[e];exact hneg
   have k:=A0h (x.map cn) ls.length (pp ls) (y.map cn) _ _ (by simp;omega) (by omega) (E7 hrem) hneg';rw[fO] at k;obtain⟨as',bs',hb⟩:=ih y (Cc (Bt x y)) (M*(x.length-y.length+2)) (ls++[y.map cn]) hM' (by rw[DR];omega) (by rw[DR];omega) (by omega) py (JM (HY _ _ _ px)) (ky.mono (by omega)) (Wy r3) (by rw[DR];exact Kx r2 hphi) (by rw[AX];simp;omega);have e:ls++[y.map cn]++Dj (DN f y (Cc (Bt x y)))=ls++Dj (y::DN f y (Cc (Bt x y))):=by simp[Dj]
   rw[e] at hb;have el:(ls++[y.map cn]).length=ls.length+1:=by simp
   rw[el] at hb;exact⟨as',bs',Cv.loop k hb⟩
theorem Ke{rs:List Rn}(hr:∀ r∈rs,AO 5 r)(hn:rs.length<=9)(h0:Ag (Q rs) ≠ []) :
  prim (Ag (Q rs))=Ag (Q rs)/\Kb 10 (Ag (Q rs))/\Kb 10 (At (Ag (Q rs)))/\(Ag (Q rs)).length<=9/\(At (Ag (Q rs))).length<=(Ag (Q rs)).length-1/\(prim (At (Ag (Q rs)))).length<=(At (Ag (Q rs))).length /\
  11*IS (Ag (Q rs)).length (prim (At (Ag (Q rs)))).length<=500000/\BZ (Ag (Q rs)):=by
 have ht:Aa (Q rs) ≠ []:=by
  intro h;have hz:prim (Q rs)=[]:=by rw[Ee,<- C'];exact h
  apply h0;unfold Ag;rw[hz];rfl
 obtain⟨lf,cf,_,_,_,_,_,_⟩:=Fi ht;obtain⟨k1,k2⟩:=Y7 ht (by rw[s];exact hn) (Iy (C1 hr));have t1:=Bq (Q rs);rw[s] at t1;have k3:=Wu k1 (by omega);have d1:(At (Ag (Q rs))).length<=(Ag (Q rs)).length-1:=by
  unfold At;have:=Bq ((Aq ((Ag (Q rs)).length-1)).map fun j=>(Ag (Q rs)).getD (j+1) 0*((j+1:Nat):Int));rwa [N,B9] at this
 have d2:(prim (At (Ag (Q rs)))).length<=(At (Ag (Q rs))).length:=by rw[BN];exact Bq _
 refine⟨H9 lf cf,k1.mono (by omega),k3.mono (by omega),by omega,d1,d2,?_,lf⟩;have:=Ow (n:=(Ag (Q rs)).length) (m:=(prim (At (Ag (Q rs)))).length) (c:=9) (by omega) (by omega);have h3:2*3^9=39366:=by decide
 omega
theorem Hp{rs:List Rn}(hr:∀ r∈rs,AO 5 r)(hn:rs.length<=9):∀ p∈B0 (Q rs),fP p:=by
 intro p hp;unfold B0 at hp;split at hp
 ·cases hp
 ·rename_i h0;obtain⟨p1,k1,k2,l1,l2,l3,hphi,lf⟩:=Ke hr hn h0;rcases D4.1 hp with rfl | hp
  ·exact⟨k1.mono (by omega),l1,lf⟩
  ·exact ZI _ _ _ 11 (by decide) (by omega) l1 p1 (BU _) k1 k2.prim hphi p hp
theorem G_{rs:List Rn}(hr:∀ r∈rs,AO 5 r)(hn:rs.length<=9):(B0 (Q rs)).length<=10:=by
 unfold B0;split
 ·simp
 ·rename_i h0;obtain⟨_,_,_,l1,_⟩:=Ke hr hn h0;have:=T7 (Ag (Q rs)).length (Ag (Q rs)) (prim (At (Ag (Q rs))));simp;omega
theorem O0{rs:List Rn}(hr:∀ r∈rs,AO 5 r)(hn:rs.length<=9):RQ 67 [sL pc rs] (L 1 (Dj (B0 (Q rs))).length (pp (Dj (B0 (Q rs))))):=by
 have hf:=nZ hr hn (by omega) (by decide);by_cases h0:Ag (Q rs)=[]
 ·have e:B0 (Q rs)=[]:=by unfold B0;rw[if_pos h0]
  rw[e];rw[h0] at hf;rcases hf with h | h
  ·exact eA rs [] (by decide) h
  ·exact eE rs [] (by decide) h
 ·obtain⟨p1,k1,k2,l1,l2,l3,hphi,lf⟩:=Ke hr hn h0;have e:B0 (Q rs)=Ag (Q rs)::DN (Ag (Q rs)).length (Ag (Q rs)) (prim (At (Ag (Q rs)))):=by unfold B0;rw[if_neg h0]
  have hd:=P2 (rs:=(Ag (Q rs)).map cn) (AW k1) (by omega) (by rw[N];omega);rw[v] at hd;have hp:=Eo (rs:=(At (Ag (Q rs))).map cn) (AW k2) (by omega) (by rw[N];omega);rw[v] at hp;obtain⟨as',bs',hl⟩:=fQ (Ag (Q rs)).length (Ag (Q rs)) (prim (At (Ag (Q rs)))) 11 [(Ag (Q rs)).map cn] (by decide) (by omega) (by omega) l1 p1 (BU _) k1 k2.prim hphi (by simp;omega);have e2:[(Ag (Q rs)).map cn]++Dj (DN (Ag (Q rs)).length (Ag (Q rs)) (prim (At (Ag (Q rs)))))=Dj (B0 (Q rs)):=by rw[e];simp[Dj]
  rw[e2] at hl;have c1:(((((Ag (Q rs)).map cn).length:Nat):Int)==0)=false:=by
   rw[beq_eq_false_iff_ne,N];have:=An.2 h0;omega
  rcases hf with h | h
  ·exact eB rs _ _ _ as' bs' _ c1 h (E7 hd) (E7 hp) hl
  ·exact eF rs _ _ _ as' bs' _ c1 h (E7 hd) (E7 hp) hl
theorem oH(ls:List (List Rn))(us bs:List Rn){n:Nat}(hn:n=ls.length+2)(hN:n<=1048576):Bn (pp (ls++[us])++([sL pc bs]:List AV)) (A (I O ((n:Int)-2))*1) 1 true=some (sL pc us):=by
 have e:A (I O ((n:Int)-2))*1=ls.length:=by rw[Bl (by omega) (by omega)];omega
 rw[e];simp only[Bn,if_true];rw[AN (by simp[pp])];simp[pp]
theorem ZJ:∀ (f:Nat) (x y:LI) (M:Nat) (ls:List (List Rn)),0<M->y.length<=f->y.length<=x.length->x.length<=9->prim x=x->prim y=y->Kb (M-1) x->Kb (M-1) y->M*IS x.length y.length<=500000->ls.length+f<=1000 ->
  ∃ bs',Ar (.loop UR) (Om (ls.length+1) (pp (ls++[x.map cn])) (y.map cn)) (.exit 0) (Om (ls++[x.map cn]++Dj (DN f x y)).length (pp (ls++[x.map cn]++Dj (DN f x y))) bs'):=by
 intro f;induction f with
 | zero =>
  intro x y M ls _ h1 _ _ _ _ _ _ _ _;have:y=[]:=A9 (by omega);subst this;have e:ls++[x.map cn]++Dj (DN 0 x [])=ls++[x.map cn]:=by simp[Dj,DN]
  rw[e,AX];exact⟨_,Ao (eG _ _ _ (by simp)) (by nofun)⟩
 | succ f ih =>
  intro x y M ls hM h1 h2 h3 px py kx ky hphi hls;simp only[DN];split
  ·rename_i h;subst h;have e:ls++[x.map cn]++Dj []=ls++[x.map cn]:=by simp[Dj]
   rw[e,AX];exact⟨_,Ao (eG _ _ _ (by simp)) (by nofun)⟩
  ·rename_i h;have hyl:=An.2 h;obtain⟨r1,r2,r3⟩:=Kw hM (Cq px) h kx ky h2;have hM':0<M*(x.length-y.length+2):=Es hM (by omega);have hMle:M<=M*(x.length-y.length+2):=BP M (by omega);have hbig:M*(x.length-y.length+2)<=500000:=by
    refine Be (AL _ ?_) hphi;unfold IS;exact BP _ (BS (by decide))
   have hrem:=Qm (rs:=x.map cn) (ss:=y.map cn) (AW kx) (AW ky) (by omega) (by omega) (by rw[N];omega) (by rw[N];omega) (by rw[v,Cq py];exact h) (by
    rw[v,v,Cq px,Cq py,Lq hM,show x.length+1-y.length=x.length-y.length+1 by omega,CS _ M];have:M*(x.length-y.length+2)=M*(x.length-y.length+1)+M:=by rw[<- Pf]
    omega)
   rw[v,v,px,py] at hrem;have hneg:=Yz (rs:=(Bt x y).map cn) (fun r hr=>(AW r3 r hr).mono (by omega)) (by rw[N];omega);rw[v,HP r1] at hneg;have hls1:(ls++[x.map cn]).length=ls.length+1:=by simp
   have e2:I O ((((ls.length+1+1):Nat):Int)-2)=(ls.length:Int):=by rw[Bl (by omega) (by omega)];omega
   have k:=Arv (ls.length+1) (pp (ls++[x.map cn])) (y.map cn) (x.map cn) ((Bt x y).map cn) _ (by simp;omega) (by omega) (by rw[e2];omega) (oH ls (x.map cn) (y.map cn) (by omega) (by omega)) hrem (E7 hneg);rw[fO] at k;obtain⟨bs',hb⟩:=ih y (Cc (Bt x y)) (M*(x.length-y.length+2)) (ls++[x.map cn]) hM' (by rw[DR];omega) (by rw[DR];omega) (by omega) py (JM (HY _ _ _ px)) (ky.mono (by omega)) (Wy r3) (by rw[DR];exact Kx r2 hphi) (by rw[hls1];omega);have e:ls++[x.map cn]++[y.map cn]++Dj (DN f y (Cc (Bt x y)))=ls++[x.map cn]++Dj (y::DN f y (Cc (Bt x y))):=by simp[Dj]
   (first|rw[e,hls1] at hb|(rw[e] at hb;unfold sL at hb;rw[hls1] at hb));exact⟨bs',Cv.loop k hb⟩
theorem O1{rs:List Rn}(hr:∀ r∈rs,AO 5 r)(hn:rs.length<=9):RQ 108 [sL pc rs] (L 1 (Dj (B0 (Q rs))).length (pp (Dj (B0 (Q rs))))):=by
 have hf:=Rv hr hn (by omega) (by decide);by_cases h0:Ag (Q rs)=[]
 ·have e:B0 (Q rs)=[]:=by unfold B0;rw[if_pos h0]
  rw[e];rw[h0] at hf;exact mU rs [] (by decide) hf
 ·obtain⟨p1,k1,k2,l1,l2,l3,hphi,lf⟩:=Ke hr hn h0;have e:B0 (Q rs)=Ag (Q rs)::DN (Ag (Q rs)).length (Ag (Q rs)) (prim (At (Ag (Q rs)))):=by unfold B0;rw[if_neg h0]
  have hd:=Yy (rs:=(Ag (Q rs)).map cn) (AW k1) (by omega) (by rw[N];omega);rw[v] at hd;have hp:=HN (rs:=(At (Ag (Q rs))).map cn) (AW k2) (by omega) (by rw[N];omega);rw[v] at hp;obtain⟨bs',hl⟩:=ZJ (Ag (Q rs)).length (Ag (Q rs)) (prim (At (Ag (Q rs)))) 11 [] (by decide) (by omega) (by omega) l1 p1 (BU _) k1 k2.prim hphi (by simp;omega);have e2:[]++[(Ag (Q rs)).map cn]++Dj (DN (Ag (Q rs)).length (Ag (Q rs)) (prim (At (Ag (Q rs)))))=Dj (B0 (Q rs)):=by rw[e];simp[Dj]
  rw[e2] at hl;have c1:(((((Ag (Q rs)).map cn).length:Nat):Int)==0)=false:=by
   rw[beq_eq_false_iff_ne,N];have:=An.2 h0;omega
  exact mV rs _ _ _ bs' _ c1 hf (E7 hd) (E7 hp) hl
def Qn(x:Int × Int)(s:Int):Int × Int:=(if s ≠ 0/\x.2 ≠ 0/\s ≠ x.2 then x.1+1 else x.1,if s ≠ 0 then s else x.2)
def HZ(l:List (LI))(N:Int)(e:Nat)(i:Nat):Int:=BJ (hv (l.getD i []) N (2^e))
def BY(l:List (LI))(N:Int)(e:Nat):Nat->Int × Int
 | 0=>(0,0)
 | i+1=>Qn (BY l N e i) (HZ l N e i)
theorem Kz(l:List (LI))(N:Int)(e:Nat):∀ i:Nat,0<=(BY l N e i).1/\(BY l N e i).1<=(i:Int)
 | 0=>by simp[BY]
 | i+1=>by
  have:=Kz l N e i;simp only[BY,Qn];split <;> omega
theorem Mt{l:List (LI)}{i:Nat}(h:i<l.length):(Dj l).getD i []=(l.getD i []).map cn:=by
 unfold Dj;rw[Z,Ch,Z,Af h];rfl
theorem Iz(l:List (LI)):(Dj l).length=l.length:=N ..
section
variable {l:List (LI)} {r:Rn} (hl:∀ p∈l,fP p) (hr:AO 100 r) (hN:l.length<=100) (e:Nat) (he:e<=4096)
include hl hr he
theorem A0z{i:Nat}(hi:i<l.length):RQ 65 [H ((Dj l).getD i []).length (pc ((Dj l).getD i [])),o [D r.1,H r.2.length (lm r.2),F O (e:Nat)]] (F O (HZ l (P r) e i)):=by
 rw[Mt hi];have hm:l.getD i []∈l:=by rw[Z,Af hi];exact CT hi
 obtain⟨h1,h2,h3⟩:=hl _ hm;have h:=Re (rs:=(l.getD i []).map cn) (AW h1) hr e (by
  rw[N];have h4:((l.getD i []).length+1)*(100+(e / 32+1)+1)<=10*230:=Bj (by omega) (by omega);omega) (by omega)
 rw[v] at h;exact h
theorem Abe{i:Nat}(hi:i<l.length):∃ w:Int,RQ 80 [H ((Dj l).getD i []).length (pc ((Dj l).getD i [])),o [D r.1,H r.2.length (lm r.2)],F O (e:Nat)] (Ah w)/\RQ 79 [Ah w] (F O (HZ l (P r) e i)):=by
 rw[Mt hi];have hm:l.getD i []∈l:=by rw[Z,Af hi];exact CT hi
 obtain⟨h1,h2,h3⟩:=hl _ hm;have hS:500000+2+(((l.getD i []).map cn).length+1)*(100+(e / 32+1)+1)<=1048576:=by
  rw[N];have h4:((l.getD i []).length+1)*(100+(e / 32+1)+1)<=10*230:=Bj (by omega) (by omega);omega
 have h:=Tv (rs:=(l.getD i []).map cn) (AW h1) hr e hS (by omega);rw[v,h3] at h;have hf:=Wc (K:=500000) hr.fits e (ts:=l.getD i []) h1.mem;have hlen:(l.getD i []).length*(100+(e / 32+1)+1)<=9*230:=Bj (by omega) (by omega);exact⟨_,h,Yd (n:=hv (l.getD i []) (P r) (2^e)) (by have:=hf.len;omega)⟩
theorem G1(hN:l.length<=100):RQ 68 [H (Dj l).length (pp (Dj l)),o [D r.1,H r.2.length (lm r.2),F O (e:Nat)]] (F O (BY l (P r) e l.length).1):=by
 have hpl:=Iz l;have h:=Cv.up (prog:=AY) (c:=Tc) (ex := .exit 0) (fin:=Ll (Dj l) r (e:Nat) (BY l (P r) e l.length).1 (BY l (P r) e l.length).2 (((Dj l).length:Nat):Int) (l.length:Nat))
  (fun i=>Ll (Dj l) r (e:Nat) (BY l (P r) e i).1 (BY l (P r) e i).2 (((Dj l).length:Nat):Int) (i:Nat)) l.length (by nofun) ?_ ?_ 0 (Ba _)
 ·exact A0n (Dj l) r (e:Nat) _ _ _ h
 ·intro i hi;have ei:I O ((i:Int)+1)=((i+1:Nat):Int):=by rw[Bl (by omega) (by omega)];omega
  have hs:=A0z hl hr e he hi;have hb:=Kz l (P r) e i;have w1:I O ((BY l (P r) e i).1+1)=(BY l (P r) e i).1+1:=Bl (by omega) (by omega);have c1:decide ((i:Int)<(((Dj l).length:Nat):Int))=true:=by rw[decide_eq_true_eq];omega
  simp only[BY,Qn];by_cases g1:HZ l (P r) e i=0
  ·rw[if_neg (fun h=>h.1 g1),if_neg (fun h=>h g1)];have k:=A0l (Dj l) r (e:Nat) (BY l (P r) e i).1 (BY l (P r) e i).2 (((Dj l).length:Nat):Int) (i:Nat) (HZ l (P r) e i) c1 (by rw[bne_eq_false_iff_eq];exact g1) (by omega) (by rw[R];exact hs);rwa [ei] at k
  ·by_cases g2:(BY l (P r) e i).2=0
   ·rw[if_neg (fun h=>h.2.1 g2),if_pos g1];have k:=A0k (Dj l) r (e:Nat) (BY l (P r) e i).1 (BY l (P r) e i).2 (((Dj l).length:Nat):Int) (i:Nat) (HZ l (P r) e i) c1 (by rw[bne_iff_ne];exact g1) (by rw[bne_eq_false_iff_eq];exact g2) (by omega) (by rw[R];exact hs);rwa [ei] at k
   ·by_cases g3:HZ l (P r) e i=(BY l (P r) e i).2
    ·rw[if_neg (fun h=>h.2.2 g3),if_pos g1];have k:=A0j (Dj l) r (e:Nat) (BY l (P r) e i).1 (BY l (P r) e i).2 (((Dj l).length:Nat):Int) (i:Nat) (HZ l (P r) e i) c1 (by rw[bne_iff_ne];exact g1) (by rw[bne_iff_ne];exact g2) (by rw[bne_eq_false_iff_eq];exact g3) (by omega) (by rw[R];exact hs);rwa [ei] at k
    ·rw[if_pos ⟨g1,g2,g3⟩,if_pos g1];have k:=A0i (Dj l) r (e:Nat) (BY l (P r) e i).1 (BY l (P r) e i).2 (((Dj l).length:Nat):Int) (i:Nat) (HZ l (P r) e i) c1 (by rw[bne_iff_ne];exact g1) (by rw[bne_iff_ne];exact g2) (by rw[bne_iff_ne];exact g3) (by omega) (by rw[R];exact hs);rwa [ei,w1] at k
 ·exact A0m (Dj l) r _ _ _ _ _ (by rw[decide_eq_false_iff_not];omega)
theorem IT(hN:l.length<=100):RQ 110 [H (Dj l).length (pp (Dj l)),o [D r.1,H r.2.length (lm r.2),F O (e:Nat)]] (F O (BY l (P r) e l.length).1):=by
 have hpl:=Iz l;have h:=Cv.up (prog:=AY) (c:=NT) (ex := .exit 0) (fin:=Iw (Dj l) r (e:Nat) (BY l (P r) e l.length).1 (BY l (P r) e l.length).2 (l.length:Nat))
  (fun i=>Iw (Dj l) r (e:Nat) (BY l (P r) e i).1 (BY l (P r) e i).2 (i:Nat)) l.length (by nofun) ?_ ?_ 0 (Ba _)
 ·exact Asb (Dj l) r (e:Nat) _ _ _ h
 ·intro i hi;have ei:I O ((i:Int)+1)=((i+1:Nat):Int):=by rw[Bl (by omega) (by omega)];omega
  obtain⟨w,hs,hs2⟩:=Abe hl hr e he hi;have hb:=Kz l (P r) e i;have w1:I O ((BY l (P r) e i).1+1)=(BY l (P r) e i).1+1:=Bl (by omega) (by omega);have c1:decide ((i:Int)<(((Dj l).length:Nat):Int))=true:=by rw[decide_eq_true_eq];omega
  simp only[BY,Qn];by_cases g1:HZ l (P r) e i=0
  ·rw[if_neg (fun h=>h.1 g1),if_neg (fun h=>h g1)];have k:=Arz (Dj l) r (e:Nat) (BY l (P r) e i).1 (BY l (P r) e i).2 (i:Nat) w (HZ l (P r) e i) c1 (by rw[bne_eq_false_iff_eq];exact g1) (by omega) (by rw[R];exact hs) hs2;rwa [ei] at k
  ·by_cases g2:(BY l (P r) e i).2=0
   ·rw[if_neg (fun h=>h.2.1 g2),if_pos g1];have k:=Ary (Dj l) r (e:Nat) (BY l (P r) e i).1 (BY l (P r) e i).2 (i:Nat) w (HZ l (P r) e i) c1 (by rw[bne_iff_ne];exact g1) (by rw[bne_eq_false_iff_eq];exact g2) (by omega) (by rw[R];exact hs) hs2;rwa [ei] at k
   ·by_cases g3:HZ l (P r) e i=(BY l (P r) e i).2
    ·rw[if_neg (fun h=>h.2.2 g3),if_pos g1];have k:=Arx (Dj l) r (e:Nat) (BY l (P r) e i).1 (BY l (P r) e i).2 (i:Nat) w (HZ l (P r) e i) c1 (by rw[bne_iff_ne];exact g1) (by rw[bne_iff_ne];exact g2) (by rw[bne_eq_false_iff_eq];exact g3) (by omega) (by rw[R];exact hs) hs2;rwa [ei] at k
    ·rw[if_pos ⟨g1,g2,g3⟩,if_pos g1];have k:=Arw (Dj l) r (e:Nat) (BY l (P r) e i).1 (BY l (P r) e i).2 (i:Nat) w (HZ l (P r) e i) c1 (by rw[bne_iff_ne];exact g1) (by rw[bne_iff_ne];exact g2) (by rw[bne_iff_ne];exact g3) (by omega) (by rw[R];exact hs) hs2;rwa [ei,w1] at k
 ·exact Asa (Dj l) r _ _ _ _ (by rw[decide_eq_false_iff_not];omega)
end
def TZB:Cn:=TZA
theorem oJ:Ca AY TZB:=mW
theorem Abf(na nb:Bool)(xs ys:LI)(s t:Int)(c1:B (s<t)=true)(n1:RQ 79 [o [D na,sL lm xs]] (F O s))(n2:RQ 79 [o [D nb,sL lm ys]] (F O t)):RQ 83 [o [D na,sL lm xs],o [D nb,sL lm ys]] (F O (-1)):=i (fn:=Td) h rfl 400 rfl [.r (F O s),.r (F O t),.b true] (S n1 (S n2 (S c1 a0)))
theorem Abg(na nb:Bool)(xs ys:LI)(s t:Int)(c1:B (s<t)=false)(c2:B (s>t)=true)(n1:RQ 79 [o [D na,sL lm xs]] (F O s))(n2:RQ 79 [o [D nb,sL lm ys]] (F O t)):RQ 83 [o [D na,sL lm xs],o [D nb,sL lm ys]] (F O 1):=i (fn:=Td) h rfl 400 rfl [.r (F O s),.r (F O t),.b false,.b true] (S n1 (S n2 (S c1 (S c2 a0))))
theorem Abh(na nb:Bool)(xs ys:LI)(s t c:Int)(c1:B (s<t)=false)(c2:B (s>t)=false)(c3:B (s<0)=true)(n1:RQ 79 [o [D na,sL lm xs]] (F O s))(n2:RQ 79 [o [D nb,sL lm ys]] (F O t))(n3:RQ 99 [sL lm xs] (L 1 ((Aa xs).length) (lm (Aa xs))))(n4:RQ 99 [sL lm ys] (L 1 ((Aa ys).length) (lm (Aa ys))))(n5:RQ 134 [H ((Aa xs).length) (lm (Aa xs)),H ((Aa ys).length) (lm (Aa ys))] (F O c)):RQ 83 [o [D na,sL lm xs],o [D nb,sL lm ys]] (F O (I O (0-c))):=i (fn:=Td) h rfl 400 rfl [.r (F O s),.r (F O t),.b false,.b false,.r (L 1 ((Aa xs).length) (lm (Aa xs))),.r (L 1 ((Aa ys).length) (lm (Aa ys))),.r (F O c),.b true] (S n1 (S n2 (S c1 (S c2 (S n3 (S n4 (S n5 (S c3 a0))))))))
theorem Abi(na nb:Bool)(xs ys:LI)(s t c:Int)(c1:B (s<t)=false)(c2:B (s>t)=false)(c3:B (s<0)=false)(n1:RQ 79 [o [D na,sL lm xs]] (F O s))(n2:RQ 79 [o [D nb,sL lm ys]] (F O t))(n3:RQ 99 [sL lm xs] (L 1 ((Aa xs).length) (lm (Aa xs))))(n4:RQ 99 [sL lm ys] (L 1 ((Aa ys).length) (lm (Aa ys))))(n5:RQ 134 [H ((Aa xs).length) (lm (Aa xs)),H ((Aa ys).length) (lm (Aa ys))] (F O c)):RQ 83 [o [D na,sL lm xs],o [D nb,sL lm ys]] (F O c):=i (fn:=Td) h rfl 400 rfl [.r (F O s),.r (F O t),.b false,.b false,.r (L 1 ((Aa xs).length) (lm (Aa xs))),.r (L 1 ((Aa ys).length) (lm (Aa ys))),.r (F O c),.b false] (S n1 (S n2 (S c1 (S c2 (S n3 (S n4 (S n5 (S c3 a0))))))))
theorem oK(na nb m1 m2:Bool)(xs ys us vs:LI)(d:Int)(c1:(m1)=true)(c2:(m2)=true)(n1:RQ 143 [o [D na,sL lm xs]] (Ax [D m1,sL lm us]))(n2:RQ 143 [o [D nb,sL lm ys]] (Ax [D m2,sL lm vs]))(n3:RQ 151 [sL lm vs,sL lm us] (F O d)):RQ 103 [o [D na,sL lm xs],o [D nb,sL lm ys]] (F O d):=i (fn:=NS) h rfl 400 rfl [.r (Ax [D m1,sL lm us]),.r (Ax [D m2,sL lm vs]),.b true,.b false,.b true,.b false,.b true,.r (F O d)] (S n1 (S n2 (S c1 (S (FQ c2) (S c2 (S (FQ c1) (S c1 (S n3 a0))))))))
theorem oO(na nb m1 m2:Bool)(xs ys us vs:LI)(c1:(m1)=true)(c2:(m2)=false)(n1:RQ 143 [o [D na,sL lm xs]] (Ax [D m1,sL lm us]))(n2:RQ 143 [o [D nb,sL lm ys]] (Ax [D m2,sL lm vs])):RQ 103 [o [D na,sL lm xs],o [D nb,sL lm ys]] (F O (-1)):=i (fn:=NS) h rfl 400 rfl [.r (Ax [D m1,sL lm us]),.r (Ax [D m2,sL lm vs]),.b true,.b true] (S n1 (S n2 (S c1 (S (W_ c2) a0))))
theorem oP(na nb m1 m2:Bool)(xs ys us vs:LI)(c1:(m1)=false)(c2:(m2)=true)(n1:RQ 143 [o [D na,sL lm xs]] (Ax [D m1,sL lm us]))(n2:RQ 143 [o [D nb,sL lm ys]] (Ax [D m2,sL lm vs])):RQ 103 [o [D na,sL lm xs],o [D nb,sL lm ys]] (F O 1):=i (fn:=NS) h rfl 400 rfl [.r (Ax [D m1,sL lm us]),.r (Ax [D m2,sL lm vs]),.b false,.b false,.b true,.b true] (S n1 (S n2 (S c1 (S EI (S c2 (S (W_ c1) a0))))))
theorem oQ(na nb m1 m2:Bool)(xs ys us vs:LI)(c:Int)(c1:(m1)=false)(c2:(m2)=false)(n1:RQ 143 [o [D na,sL lm xs]] (Ax [D m1,sL lm us]))(n2:RQ 143 [o [D nb,sL lm ys]] (Ax [D m2,sL lm vs]))(n3:RQ 151 [sL lm us,sL lm vs] (F O c)):RQ 103 [o [D na,sL lm xs],o [D nb,sL lm ys]] (F O c):=i (fn:=NS) h rfl 400 rfl [.r (Ax [D m1,sL lm us]),.r (Ax [D m2,sL lm vs]),.b false,.b false,.b false,.b false,.b false,.r (F O c)] (S n1 (S n2 (S c1 (S EI (S c2 (S EI (S c1 (S n3 a0))))))))
def GH(m:Bool)(k:Int)(s:Int)(ms:LI)(lost:Bool)(i:Int):Al:=(Y 4 (g [D false,H 0 []]::(C (D m)::(C (sL lm ms)::(C (F O k)::(C (F U s)::(C (D lost)::(C (F O i)::(Y 92 [])))))))))
theorem Abj(m:Bool)(k:Int)(s:Int)(ms:LI)(lost:Bool)(i:Int)(c1:B (i<k)=true)(c2:B (i<(ms.length:Int))=true)(c3:(lost)=false)(n1:0<=i/\i<(ms.length:Int)):Ar Lb (GH m k s ms lost i) .norm (GH m k s ms ((ms.getD (A i) 0) != 0) (I O (i+1))):=(G h 400 [.b true,.b true,.b false,.v (F Ac (ms.getD (A i) 0))] [4,5,6,7,8,9,10] (S c1 (S c2 (S c3 (S n1 (S (y n1) a0))))))
theorem Abk(m:Bool)(k:Int)(s:Int)(ms:LI)(lost:Bool)(i:Int)(c1:B (i<k)=false):Ar Lb (GH m k s ms lost i) (.exit 0) (GH m k s ms lost i):=(G h 400 [.b false,.b false] [4,5,6,7,8,9,10] (S c1 (S EI a0)))
def FV(m:Bool)(k:Int)(s:Int)(ms:LI)(lost:Bool)(n:Nat)(cs:List AV)(i:Int):Al:=(Y 4 (g [D false,H 0 []]::(C (D m)::(C (sL lm ms)::(C (F O k)::(C (F U s)::(C (D lost)::(Y 1 (X 1 n cs::(C (F O i)::(Y 90 [])))))))))))
theorem Abl(m:Bool)(k:Int)(s:Int)(ms:LI)(lost:Bool)(n:Nat)(cs:List AV)(i:Int)(c1:B (i<(ms.length:Int))=true)(c2:B ((I O (i+1))<(ms.length:Int))=true)(n1:0<=i/\i<(ms.length:Int))(n2:0<=(I O (i+1))/\(I O (i+1))<(ms.length:Int))(n3:¬ s<0)(n4:n+1<=35184372088832):Ar J_ (FV m k s ms lost n cs i) .norm (FV m k s ms lost (n+1) (cs++([F Ac (I Ac (d (I U ((T (Am .u64) (I U (ms.getD (A i) 0)) ||| T (Am .u64) (I U ((I U (ms.getD (A (I O (i+1))) 0))*2^(min (A 32) (Am .u64))))).toNat)) (2^(min (A s) (Am .u64)))))]:List AV)) (I O (i+1))):=(G h 400 [.b true,.v (F Ac (ms.getD (A i) 0)),.b true,.v (F Ac (ms.getD (A (I O (i+1))) 0))] [4,5,6,7,8,9,11,12] (S c1 (S n1 (S (y n1) (S c2 (S n2 (S (y n2) (S Ie (S n3 (S (show Bh ([F Ac (I Ac (d (I U ((T (Am .u64) (I U (ms.getD (A i) 0)) ||| T (Am .u64) (I U ((I U (ms.getD (A (I O (i+1))) 0))*2^(min (A 32) (Am .u64))))).toNat)) (2^(min (A s) (Am .u64)))))]:List AV)=1*1 from rfl) (S n4 a0)))))))))))
theorem Abm(m:Bool)(k:Int)(s:Int)(ms:LI)(lost:Bool)(n:Nat)(cs:List AV)(i:Int)(c1:B (i<(ms.length:Int))=true)(c2:B ((I O (i+1))<(ms.length:Int))=false)(n1:0<=i/\i<(ms.length:Int))(n2:¬ s<0)(n3:n+1<=35184372088832):Ar J_ (FV m k s ms lost n cs i) .norm (FV m k s ms lost (n+1) (cs++([F Ac (I Ac (d (I U (ms.getD (A i) 0)) (2^(min (A s) (Am .u64)))))]:List AV)) (I O (i+1))):=(G h 400 [.b true,.v (F Ac (ms.getD (A i) 0)),.b false] [4,5,6,7,8,9,11,12] (S c1 (S n1 (S (y n1) (S c2 (S n2 (S (show Bh ([F Ac (I Ac (d (I U (ms.getD (A i) 0)) (2^(min (A s) (Am .u64)))))]:List AV)=1*1 from rfl) (S n3 a0))))))))
theorem Abn(m:Bool)(k:Int)(s:Int)(ms:LI)(lost:Bool)(n:Nat)(cs:List AV)(i:Int)(c1:B (i<(ms.length:Int))=false):Ar J_ (FV m k s ms lost n cs i) (.exit 2) (FV m k s ms lost n cs i):=(G h 400 [.b false] [4,5,6,7,8,9,11,12] (S c1 a0))
theorem oR(neg m lost:Bool)(xs ms os:LI)(sh i1 i2 u:Int)(c1:B ((I O (Aw sh 32))<(ms.length:Int))=true)(c2:((I Ac ((T (Am .u32) (ms.getD (A (I O (Aw sh 32))) 0) &&& T (Am .u32) (I Ac ((I Ac (1*2^(min (A (I U (AD sh 32))) (Am .u32))))-1))).toNat)) != 0)=false)(c3:(m)=true)(c4:(lost)=false)(n1:RQ 143 [o [D neg,sL lm xs]] (Ax [D m,sL lm ms]))(hl2:Ar (.loop Lb) (GH m (I O (Aw sh 32)) (I U (AD sh 32)) ms false 0) (.exit 0) (GH m (I O (Aw sh 32)) (I U (AD sh 32)) ms lost i1))(hl3:Ar (.loop J_) (FV m (I O (Aw sh 32)) (I U (AD sh 32)) ms lost 0 ([]:List AV) (I O (Aw sh 32))) (.exit 2) (FV m (I O (Aw sh 32)) (I U (AD sh 32)) ms lost os.length (lm os) i2))(n4:0<=(I O (Aw sh 32))/\(I O (Aw sh 32))<(ms.length:Int))(n5:¬ (I U (AD sh 32))<0)(n6:RQ 152 [D m,sL lm os] (Ah u)):RQ 163 [o [D neg,sL lm xs],F O sh] (Ah u):=A8 Sj (Y 4 (g [D (B (u<0)),H ((M (E u)).length) (lm (M (E u)))]::(Y 98 []))) (W (W (W (q (Cv.seq (G h 400 [.r (Ax [D m,sL lm ms])] [4,5,6,7,8,9,10] (S n1 (S FP (S FP a0)))) (Cv.seq (Cv.block hl2) (q (Cv.seq (G h 400 [] [4,5,6,7,8,9,11,12] a0) (Cv.seq (Cv.block hl3) (G h 400 [.b true,.v (F Ac (ms.getD (A (I O (Aw sh 32))) 0)),.b false,.b true,.b false,.r (Ah u)] [4] (S c1 (S n4 (S (y n4) (S n5 (S c2 (S c3 (S c4 (S n6 a0))))))))))))))))))
theorem oT(neg m lost:Bool)(xs ms os:LI)(sh i1 i2 u:Int)(c1:B ((I O (Aw sh 32))<(ms.length:Int))=true)(c2:((I Ac ((T (Am .u32) (ms.getD (A (I O (Aw sh 32))) 0) &&& T (Am .u32) (I Ac ((I Ac (1*2^(min (A (I U (AD sh 32))) (Am .u32))))-1))).toNat)) != 0)=false)(c3:(m)=false)(n1:RQ 143 [o [D neg,sL lm xs]] (Ax [D m,sL lm ms]))(hl2:Ar (.loop Lb) (GH m (I O (Aw sh 32)) (I U (AD sh 32)) ms false 0) (.exit 0) (GH m (I O (Aw sh 32)) (I U (AD sh 32)) ms lost i1))(hl3:Ar (.loop J_) (FV m (I O (Aw sh 32)) (I U (AD sh 32)) ms lost 0 ([]:List AV) (I O (Aw sh 32))) (.exit 2) (FV m (I O (Aw sh 32)) (I U (AD sh 32)) ms lost os.length (lm os) i2))(n4:0<=(I O (Aw sh 32))/\(I O (Aw sh 32))<(ms.length:Int))(n5:¬ (I U (AD sh 32))<0)(n6:RQ 152 [D m,sL lm os] (Ah u)):RQ 163 [o [D neg,sL lm xs],F O sh] (Ah u):=A8 Sj (Y 4 (g [D (B (u<0)),H ((M (E u)).length) (lm (M (E u)))]::(Y 98 []))) (W (W (W (q (Cv.seq (G h 400 [.r (Ax [D m,sL lm ms])] [4,5,6,7,8,9,10] (S n1 (S FP (S FP a0)))) (Cv.seq (Cv.block hl2) (q (Cv.seq (G h 400 [] [4,5,6,7,8,9,11,12] a0) (Cv.seq (Cv.block hl3) (G h 400 [.b true,.v (F Ac (ms.getD (A (I O (Aw sh 32))) 0)),.b false,.b false,.b false,.r (Ah u)] [4] (S c1 (S n4 (S (y n4) (S n5 (S c2 (S c3 (S EI (S n6 a0))))))))))))))))))
theorem A1a(r t:Rn)(e f X Y c:Int)(n1:RQ 104 [As r,F O (I O ((if f>e then f else e)-e))] (Ah X))(n2:RQ 104 [As t,F O (I O ((if f>e then f else e)-f))] (Ah Y))(n3:RQ 103 [Ah X,Ah Y] (F O c)):RQ 55 [o [D r.1,H r.2.length (lm r.2),F O e],o [D t.1,H t.2.length (lm t.2),F O f]] (F O c):=i (fn:=bO) h rfl 400 rfl [.r (Ah X),.r (Ah Y),.r (F O c)] (S n1 (S n2 (S n3 a0)))
def LN(n:Rn)(e:Int)(z:Int):Al:=(Y 1 (C (F O e)::(g [D n.1,H n.2.length (lm n.2)]::(Y 1 (g [D false,H 0 [],F O 0]::(C (F O z)::(Y 33 [])))))))
theorem Atz(n:Rn)(e:Int)(z:Int)(c1:B (z<e)=true)(c2:((I Ac ((T (Am .u32) (d (n.2.getD (A (I O (Aw z 32))) 0) (2^(min (A (I U (AD z 32))) (Am .u32)))) &&& T (Am .u32) 1).toNat))==0)=true)(n1:0<=(I O (Aw z 32))/\(I O (Aw z 32))<(n.2.length:Int))(n2:¬ (I U (AD z 32))<0):Ar RT (LN n e z) .norm (LN n e (I O (z+1))):=(G h 400 [.b true,.v (F Ac (n.2.getD (A (I O (Aw z 32))) 0)),.b true] [1,2,4,5] (S c1 (S FP (S n1 (S (y n1) (S FP (S n2 (S c2 a0))))))))
theorem Aua(n:Rn)(e:Int)(z:Int)(c1:B (z<e)=true)(c2:((I Ac ((T (Am .u32) (d (n.2.getD (A (I O (Aw z 32))) 0) (2^(min (A (I U (AD z 32))) (Am .u32)))) &&& T (Am .u32) 1).toNat))==0)=false)(n1:0<=(I O (Aw z 32))/\(I O (Aw z 32))<(n.2.length:Int))(n2:¬ (I U (AD z 32))<0):Ar RT (LN n e z) (.exit 0) (LN n e z):=(G h 400 [.b true,.v (F Ac (n.2.getD (A (I O (Aw z 32))) 0)),.b false] [1,2,4,5] (S c1 (S FP (S n1 (S (y n1) (S FP (S n2 (S c2 a0))))))))
theorem Aub(n:Rn)(e:Int)(z:Int)(c1:B (z<e)=false):Ar RT (LN n e z) (.exit 0) (LN n e z):=(G h 400 [.b false,.b false] [1,2,4,5] (S c1 (S EI a0)))
theorem oU(r:Rn)(e n:Int)(c1:((((M (E n)).length:Nat):Int)==0)=true)(n1:RQ 113 [As r] (Ah n)):RQ 130 [As r,F O e] (o [D false,H 0 [],F O 0]):=A8 RU (Y 4 (g [D false,H 0 [],F O 0]::(Y 34 []))) (W (W (W (AJ (G h 400 [.r (Ah n),.b true] [4] (S n1 (S c1 a0))) (by nofun)))))
theorem oV(r:Rn)(e n z u:Int)(c1:((((M (E n)).length:Nat):Int)==0)=false)(n1:RQ 113 [As r] (Ah n))(hl2:Ar (.loop RT) (LN (cn n) e 0) (.exit 0) (LN (cn n) e z))(n3:RQ 163 [As (cn n),F O z] (Ah u)):RQ 130 [As r,F O e] (o [D (B (u<0)),H ((M (E u)).length) (lm (M (E u))),F O (I O (e-z))]):=A8 RU (Y 4 (g [D (B (u<0)),H ((M (E u)).length) (lm (M (E u))),F O (I O (e-z))]::(Y 34 []))) (W (W (W (Cv.seq (G h 400 [.r (Ah n),.b false] [1,2,4,5] (S n1 (S c1 a0))) (Cv.seq (Cv.block hl2) (G h 400 [.r (Ah u)] [4] (S n3 a0)))))))
theorem Auc(r t:Rn)(e f X Y Z n m:Int)(n1:RQ 104 [As r,F O (I O ((if f>e then f else e)-e))] (Ah X))(n2:RQ 104 [As t,F O (I O ((if f>e then f else e)-f))] (Ah Y))(n3:RQ 111 [Ah X,Ah Y] (Ah Z))(n4:RQ 130 [Ah Z,F O (I O ((if f>e then f else e)+1))] (o [D (B (n<0)),H ((M (E n)).length) (lm (M (E n))),F O m])):RQ 133 [o [D r.1,H r.2.length (lm r.2),F O e],o [D t.1,H t.2.length (lm t.2),F O f]] (o [D (B (n<0)),H ((M (E n)).length) (lm (M (E n))),F O m]):=i (fn:=Vg) h rfl 400 rfl [.r (Ah X),.r (Ah Y),.r (Ah Z),.r (o [D (B (n<0)),H ((M (E n)).length) (lm (M (E n))),F O m])] (S n1 (S n2 (S n3 (S n4 a0))))
theorem Abo(r:Rn)(e:Int)(b:Bool)(c1:B (e>=0)=true)(c2:B (e<=4096)=true)(n1:RQ 107 [As r] (D b)):RQ 59 [o [D r.1,H r.2.length (lm r.2),F O e]] (D (!b)):=i (fn:=UH) h rfl 400 rfl [.b true,.b true,.r (D b)] (S c1 (S c2 (S n1 a0)))
theorem Abp(r:Rn)(e:Int)(c1:B (e>=0)=true)(c2:B (e<=4096)=false):RQ 59 [o [D r.1,H r.2.length (lm r.2),F O e]] (D false):=i (fn:=UH) h rfl 400 rfl [.b true,.b false] (S c1 (S c2 a0))
theorem Abq(r:Rn)(e:Int)(c1:B (e>=0)=false):RQ 59 [o [D r.1,H r.2.length (lm r.2),F O e]] (D false):=i (fn:=UH) h rfl 400 rfl [.b false,.b false] (S c1 (S EI a0))
theorem A1b(r t:Rn)(e f X Y c:Int)(n1:RQ 84 [As r,F O f] (CD X))(n2:RQ 84 [As t,F O e] (CD Y))(n3:RQ 83 [Ah X,Ah Y] (F O c)):RQ 33 [o [D r.1,H r.2.length (lm r.2),F O e],o [D t.1,H t.2.length (lm t.2),F O f]] (F O c):=i (fn:=bH) h rfl 400 rfl [.r (CD X),.r (CD Y),.r (F O c)] (S n1 (S n2 (S n3 a0)))
def JN(n:Rn)(e:Int):Al:=(Y 2 (g [D false,H 0 [],F O 0]::(g [D n.1,H n.2.length (lm n.2)]::(C (F O e)::(Y 28 [])))))
theorem Aud(n:Rn)(e:Int)(u:Int)(c1:B (e>0)=true)(c2:((n.2.length:Int)==0)=true)(n1:RQ 128 [As n,F O 1] (Ah u)):Ar PS (JN n e) .norm (JN (cn u) (I O (e-1))):=(G h 400 [.b true,.b true,.b true,.b true,.b true,.r (Ah u)] [2,3,4] (S c1 (S c2 (S c1 (S c2 (S Ip (S n1 a0)))))))
theorem Aue(n:Rn)(e:Int)(u:Int)(c1:B (e>0)=true)(c2:((n.2.length:Int)==0)=false)(c3:((I Ac ((T (Am .u32) (n.2.getD (A 0) 0) &&& T (Am .u32) 1).toNat))==0)=true)(n1:0<=(0:Int)/\(0:Int)<(n.2.length:Int))(n2:RQ 128 [As n,F O 1] (Ah u)):Ar PS (JN n e) .norm (JN (cn u) (I O (e-1))):=(G h 400 [.b true,.b false,.v (F Ac (n.2.getD (A 0) 0)),.b true,.b false,.b true,.r (Ah u)] [2,3,4] (S c1 (S c2 (S n1 (S (y n1) (S c1 (S c2 (S c3 (S n2 a0)))))))))
theorem Auf(n:Rn)(e:Int)(c1:B (e>0)=true)(c2:((n.2.length:Int)==0)=false)(c3:((I Ac ((T (Am .u32) (n.2.getD (A 0) 0) &&& T (Am .u32) 1).toNat))==0)=false)(n1:0<=(0:Int)/\(0:Int)<(n.2.length:Int)):Ar PS (JN n e) (.exit 0) (JN n e):=(G h 400 [.b true,.b false,.v (F Ac (n.2.getD (A 0) 0)),.b true,.b false,.b false] [2,3,4] (S c1 (S c2 (S n1 (S (y n1) (S c1 (S c2 (S c3 a0))))))))
theorem Aug(n:Rn)(e:Int)(c1:B (e>0)=false):Ar PS (JN n e) (.exit 0) (JN n e):=(G h 400 [.b false,.b false] [2,3,4] (S c1 (S EI a0)))
theorem Auh(r:Rn)(e n u z:Int)(n1:RQ 97 [As r] (Ah n))(hl2:Ar (.loop PS) (JN (cn n) e) (.exit 0) (JN (cn u) z)):RQ 162 [o [D r.1,H r.2.length (lm r.2),F O e]] (o [D ((cn u).1),H ((cn u).2.length) (lm (cn u).2),F O z]):=A8 Vy (Y 2 (g [D ((cn u).1),H ((cn u).2.length) (lm (cn u).2),F O z]::(Y 30 []))) (W (Cv.seq (G h 400 [.r (Ah n)] [2,3,4] (S n1 a0)) (Cv.seq (Cv.block hl2) (G h 400 [] [2] a0))))
theorem Aui(r t:Rn)(e f X Y Z n m:Int)(n1:RQ 84 [As r,F O (I O ((if f>e then f else e)-e))] (CD X))(n2:RQ 84 [As t,F O (I O ((if f>e then f else e)-f))] (CD Y))(n3:RQ 95 [Ah X,Ah Y] (Ah Z))(n4:RQ 162 [o [D (B (Z<0)),H ((M (E Z)).length) (lm (M (E Z))),F O (I O ((if f>e then f else e)+1))]] (o [D (B (n<0)),H ((M (E n)).length) (lm (M (E n))),F O m])):RQ 121 [o [D r.1,H r.2.length (lm r.2),F O e],o [D t.1,H t.2.length (lm t.2),F O f]] (o [D (B (n<0)),H ((M (E n)).length) (lm (M (E n))),F O m]):=i (fn:=U_) h rfl 400 rfl [.r (CD X),.r (CD Y),.r (Ah Z),.r (o [D (B (n<0)),H ((M (E n)).length) (lm (M (E n))),F O m])] (S n1 (S n2 (S n3 (S n4 a0))))
theorem A1c{a b X Y:Int}(ha:a=X\/a = -X)(hb:b=Y\/b = -Y)(hX:0<=X)(hY:0<=Y) :
  (BJ a<BJ b->CI a b = -1)/\(BJ a>BJ b->CI a b=1)/\(¬ BJ a<BJ b->¬ BJ a>BJ b->(BJ a<0->CI a b = -CI X Y)/\(¬ BJ a<0->CI a b=CI X Y)):=by
 unfold BJ CI;grind
theorem Rw(a b:Int) : -1<=CI a b/\CI a b<=1:=by unfold CI;grind
theorem Auj(neg:Bool)(xs:LI):rv neg xs=Ab xs\/rv neg xs = -Ab xs:=by unfold rv;cases neg <;> simp
theorem Abr{na nb:Bool}{xs ys:LI}(hx:AP xs)(hy:AP ys)(h1:xs.length<=1048576)(h2:ys.length<=1048576):RQ 83 [o [D na,sL lm xs],o [D nb,sL lm ys]] (F O (CI (rv na xs) (rv nb ys))):=by
 obtain⟨a1,a2,a3⟩:=A1c (Auj na xs) (Auj nb ys) (AZ hx) (AZ hy);have s1:=Gx (neg:=na) hx h1;have s2:=Gx (neg:=nb) hy h2;by_cases c1:BJ (rv na xs)<BJ (rv nb ys)
 ·rw[a1 c1];exact Abf na nb xs ys _ _ (by rw[decide_eq_true_eq];exact c1) s1 s2
 by_cases c2:BJ (rv na xs)>BJ (rv nb ys)
 ·rw[a2 c2];exact Abg na nb xs ys _ _ (by rw[decide_eq_false_iff_not];exact c1) (by rw[decide_eq_true_eq];exact c2) s1 s2
 obtain⟨a4,a5⟩:=a3 c1 c2;have t1:=Bq xs;have t2:=Bq ys;have hc:=Oa (F7 hx) (F7 hy) (by omega);rw[Ek,Ek] at hc;by_cases c3:BJ (rv na xs)<0
 ·have hb:=Rw (Ab xs) (Ab ys);have k:=Abh na nb xs ys _ _ _ (by rw[decide_eq_false_iff_not];exact c1) (by rw[decide_eq_false_iff_not];exact c2) (by rw[decide_eq_true_eq];exact c3) s1 s2 (DX (by omega)) (DX (by omega)) hc;rw[Bl (by omega) (by omega),Int.zero_sub] at k;rw[a4 c3];exact k
 ·rw[a5 c3];exact Abi na nb xs ys _ _ _ (by rw[decide_eq_false_iff_not];exact c1) (by rw[decide_eq_false_iff_not];exact c2) (by rw[decide_eq_false_iff_not];exact c3) s1 s2 (DX (by omega)) (DX (by omega)) hc
theorem Abs{na nb:Bool}{xs ys:LI}(hx:AP xs)(hy:AP ys)(h1:xs.length<=1048576)(h2:ys.length<=1048576):RQ 103 [o [D na,sL lm xs],o [D nb,sL lm ys]] (F O (CI (rv na xs) (rv nb ys))):=by
 have s1:=Dp (neg:=na) hx h1;have s2:=Dp (neg:=nb) hy h2;have l1:=EM (neg:=na) hx;have l2:=EM (neg:=nb) hy;have k1:=Jd (Ci (rv na xs).natAbs) (Ci (rv nb ys).natAbs) (by omega);have k2:=Jd (Ci (rv nb ys).natAbs) (Ci (rv na xs).natAbs) (by omega);rw[Cr,Cr] at k1 k2;by_cases c1:rv na xs<0
 ·by_cases c2:rv nb ys<0
  ·have e:CI (rv na xs) (rv nb ys)=CI ((rv nb ys).natAbs:Int) ((rv na xs).natAbs:Int):=by unfold CI;grind
   rw[e];exact oK na nb _ _ xs ys _ _ _ (decide_eq_true c1) (decide_eq_true c2) s1 s2 k2
  ·have e:CI (rv na xs) (rv nb ys) = -1:=by unfold CI;grind
   rw[e];exact oO na nb _ _ xs ys _ _ (decide_eq_true c1) (decide_eq_false c2) s1 s2
 ·by_cases c2:rv nb ys<0
  ·have e:CI (rv na xs) (rv nb ys)=1:=by unfold CI;grind
   rw[e];exact oP na nb _ _ xs ys _ _ (decide_eq_false c1) (decide_eq_true c2) s1 s2
  ·have e:CI (rv na xs) (rv nb ys)=CI ((rv na xs).natAbs:Int) ((rv nb ys).natAbs:Int):=by unfold CI;grind
   rw[e];exact oQ na nb _ _ xs ys _ _ _ (decide_eq_false c1) (decide_eq_false c2) s1 s2 k1
theorem fR{ms:LI}(hu:AP ms):∀ k,k<=ms.length->Ab (ms.take k)=0->∀ i,i<k->ms.getD i 0=0:=by
 intro k;induction k with
 | zero=>intro _ _ i hi;omega
 | succ k ih =>
  intro hk hv i hi;have ht:=DY ms k (by omega);have hp:=Cy k;have hm:=AG hu k;have h1:=(Oj (DS hu k) (A6 (A7 hp) hm.1)).1 (by rw[<- ht];exact hv);rcases Cp i k with g | g
  ·exact ih (by omega) h1.1 i g
  ·have:i=k:=by omega
   subst this;rcases KR.1 h1.2 with z | z
   ·omega
   ·exact z
theorem A6g{m:Bool}{ms:LI}{s:Int}{k:Nat}(hk:k<=ms.length)(hN:ms.length<=1048576)(hz:∀ i,i<k->ms.getD i 0=0) :
  Ar (.loop Lb) (GH m (k:Nat) s ms false 0) (.exit 0) (GH m (k:Nat) s ms false (k:Nat)):=by
 have h:=Cv.up (prog:=AY) (c:=Lb) (ex := .exit 0) (fin:=GH m (k:Nat) s ms false (k:Nat)) (fun i=>GH m (k:Nat) s ms false (i:Nat)) k (by nofun) ?_ ?_ 0 (Ba _)
 ·exact h
 ·intro i hi;have ei:I O ((i:Int)+1)=((i+1:Nat):Int):=by rw[Bl (by omega) (by omega)];omega
  have k1:=Abj m (k:Nat) s ms false (i:Nat) (by simp;omega) (by simp;omega) rfl (by omega);rw[ei,R,hz i hi] at k1;exact k1
 ·exact Abk m _ s ms false _ (by simp)
theorem A6h{m:Bool}{ms:LI}{kk:Int}{s k:Nat}(hu:AP ms)(hs:s<32)(hN:ms.length<=1048576)(hk:k<=ms.length):∀ (r i:Nat),i+r=ms.length-k ->
  Ar (.loop J_) (FV m kk (s:Nat) ms false i (lm ((Aq i).map (Dh (ms.drop k) s))) ((k+i:Nat):Int)) (.exit 2) (FV m kk (s:Nat) ms false (ms.length-k) (lm ((Aq (ms.length-k)).map (Dh (ms.drop k) s))) (ms.length:Nat)):=by
 intro r;induction r with
 | zero =>
  intro i hi;have hi':i=ms.length-k:=by omega
  subst hi';have e0:((k+(ms.length-k):Nat):Int)=(ms.length:Nat):=by omega
  rw[e0];exact Ao (Abn m kk _ ms false _ _ _ (by simp)) (by nofun)
 | succ r ih =>
  intro i hi;have ei:I O (((k+i:Nat):Int)+1)=((k+(i+1):Nat):Int):=by rw[Bl (by omega) (by omega)];omega
  have hx:=AG hu (k+i);have hy:=AG hu (k+i+1);have gx:(ms.drop k).getD i 0=ms.getD (k+i) 0:=by simp[Z,Bu]
  have gy:(ms.drop k).getD (i+1) 0=ms.getD (k+i+1) 0:=by simp[Z,Bu,Dw]
  have em:min (A (s:Int)) (Am .u64)=s:=by rw[R];show min s 64=s;omega
  have hR:Dh (ms.drop k) s i=(ms.getD (k+i+1) 0*4294967296+ms.getD (k+i) 0) / 2^s % 4294967296:=by
   rw[dV hx hs];unfold Dh;rw[gx,gy]
  have hstep:Ar J_ (FV m kk (s:Nat) ms false i (lm ((Aq i).map (Dh (ms.drop k) s))) ((k+i:Nat):Int)) .norm (FV m kk (s:Nat) ms false (i+1) (lm ((Aq (i+1)).map (Dh (ms.drop k) s))) ((k+(i+1):Nat):Int)):=by
   have el:lm ((Aq (i+1)).map (Dh (ms.drop k) s))=lm ((Aq i).map (Dh (ms.drop k) s))++([F Ac (Dh (ms.drop k) s i)]:List AV):=by
    rw[Hq,D_,C2,GC,H8]
   rw[el,hR];by_cases h1:k+i+1<ms.length
   ·have kk1:=Abl m kk (s:Nat) ms false i (lm ((Aq i).map (Dh (ms.drop k) s))) ((k+i:Nat):Int) (by simp;omega) (by rw[ei];simp;omega) (by omega) (by rw[ei];omega) (by omega) (by omega);rw[ei,R,R,em] at kk1;have w1:I U ((T (Am .u64) (I U (ms.getD (k+i) 0)) ||| T (Am .u64) (I U ((I U (ms.getD (k+(i+1)) 0))*2^(min (A 32) (Am .u64))))).toNat)=ms.getD (k+i+1) 0*4294967296+ms.getD (k+i) 0:=by
     rw[TW,C8 (n:=ms.getD (k+(i+1)) 0) (by rw[<- Dw];omega),<- Dw];exact MU hy hx
    have hpos:0<=ms.getD (k+i+1) 0*4294967296+ms.getD (k+i) 0:=by omega
    rw[w1,t _ (by have:=BE s;omega),DW] at kk1;exact kk1
   ·have hz:ms.getD (k+i+1) 0=0:=Bw (by omega);have kk1:=Abm m kk (s:Nat) ms false i (lm ((Aq i).map (Dh (ms.drop k) s))) ((k+i:Nat):Int) (by simp;omega) (by rw[ei];simp;omega) (by omega) (by omega) (by omega);rw[ei,R,em,C8 (n:=ms.getD (k+i) 0) (by omega),t _ (by have:=BE s;omega),DW] at kk1;rw[hz,DF,DK];exact kk1
  exact Cv.loop hstep (ih (i+1) (by omega))
theorem fS{N:Int}(h0:N ≠ 0){z:Nat}(hd:(2:Int)^z∣N):z / 32<(M N.natAbs).length:=by
 apply I4;intro hle;have h1:=DI (Ci N.natAbs).1;rw[Cr] at h1;have h2:=Gl hle;have h3:=HV z;have h4:=BE (z % 32);have h5:=Ak (show (1:Int)<=2^(z % 32) by omega) (A7 (Cy (z / 32)));rw[Dn,<- h3] at h5;obtain⟨q,hq⟩:=hd;have hq0:q ≠ 0:=by intro h;rw[h,AM] at hq;exact h0 hq
 have h6:(N.natAbs:Int)=2^z*(q.natAbs:Int):=by
  rw[hq,BK,CQ,KS (A7 (BE z))]
 have h7:=Ak (show (1:Int)<=(q.natAbs:Int) by omega) (A7 (BE z));rw[Dn,<- h6] at h7;omega
theorem fT{N:Int}(h0:N ≠ 0){n:Nat}(hd:(2:Int)^n∣N)(hn:(n:Int)<=9223372036854775807)(hN:(M N.natAbs).length<=1048576):RQ 163 [Ah N,F O (n:Nat)] (Ah (N / 2^n)):=by
 have hin:=fS h0 hd;have e1:I O (Aw (n:Int) 32)=((n / 32:Nat):Int):=by
  rw[B8 (by omega),Bl (by omega) (by omega)];omega
 have e2:I U (AD (n:Int) 32)=((n % 32:Nat):Int):=by
  rw[Bs (by omega),B6];omega
 have hs:n % 32<32:=HB _ (by decide);have tu:AP (M N.natAbs):=BI _;have hlb:=Dp (neg:=decide (N<0)) tu hN;rw[F8] at hlb;have hp:=HV n;have hP:=Cy (n / 32);have hS:=BE (n % 32);have hval:=Cr N.natAbs;generalize hms:M N.natAbs=ms at *
 have hall:=dW (ms:=ms) hs (show n / 32<=ms.length by omega);have ux:AP ((Aq (ms.length-n / 32)).map (Dh (ms.drop (n / 32)) (n % 32))):=Qd fun i=>(Rc (Fg tu _) hs i).2.2.2;have hmk:=EO (neg:=decide (N<0)) ux (by simp;omega);have hlen:((Aq (ms.length-n / 32)).map (Dh (ms.drop (n / 32)) (n % 32))).length=ms.length-n / 32:=by simp
 have hb:=A6h (m:=decide (N<0)) (ms:=ms) (kk:=((n / 32:Nat):Int)) (s:=n % 32) (k:=n / 32) tu hs hN (by omega) (ms.length-n / 32) 0 (by omega);generalize hQ:(Aq (ms.length-n / 32)).map (Dh (ms.drop (n / 32)) (n % 32))=Q at *
 (first|rw[<- hlen] at hb|(unfold sL at hb;rw[<- hlen] at hb));have hm0:=FE (ms.getD (n / 32) 0) (show (2:Int)^(n % 32) ≠ 0 by omega);have hm1:=Ey (ms.getD (n / 32) 0) hS;have ht0:=AZ (DS tu (n / 32));have ht1:=Ge tu (n / 32);have hl:0<=4294967296^(n / 32)*(ms.getD (n / 32) 0 % 2^(n % 32))+Ab (ms.take (n / 32))/\4294967296^(n / 32)*(ms.getD (n / 32) 0 % 2^(n % 32))+Ab (ms.take (n / 32))<2^n:=by
  rw[hp];generalize (4294967296:Int)^(n / 32)=P at *
  generalize ms.getD (n / 32) 0 % 2^(n % 32)=z at *
  generalize (2:Int)^(n % 32)=S at *
  have a:=A6 (A7 hP) hm0;have b:=Ak (show z+1<=S by omega) (A7 hP);rw[CW,Dn] at b;omega
 have hdm:(2:Int)^n∣(N.natAbs:Int):=Int.dvd_natAbs.2 hd;have hv2:(N.natAbs:Int)=2^n*Ab Q+(4294967296^(n / 32)*(ms.getD (n / 32) 0 % 2^(n % 32))+Ab (ms.take (n / 32))):=by rw[<- hval,hall,hp];grind
 have hl0:4294967296^(n / 32)*(ms.getD (n / 32) 0 % 2^(n % 32))+Ab (ms.take (n / 32))=0:=by
  have h1:(N.natAbs:Int) % 2^n=0:=Int.emod_eq_zero_of_dvd hdm;rw[hv2,Ks,TO,Gh hl.1 hl.2] at h1;exact h1
 have hz1:ms.getD (n / 32) 0 % 2^(n % 32)=0/\Ab (ms.take (n / 32))=0:=by
  have a:=A6 (A7 hP) hm0;have b:4294967296^(n / 32)*(ms.getD (n / 32) 0 % 2^(n % 32))=0:=by omega
  rcases KR.1 b with z | z
  ·omega
  ·exact⟨z,by omega⟩
 rw[hl0,B5] at hv2;have ha:=A6g (m:=decide (N<0)) (ms:=ms) (s:=((n % 32:Nat):Int)) (k:=n / 32) (by omega) hN (fR tu _ (by omega) hz1.2);have emask:I Ac ((I Ac (1*2^(min (A (I U (AD (n:Int) 32))) (Am .u32))))-1)=2^(n % 32)-1:=by
  have:min (A ((n % 32:Nat):Int)) (Am .u32)=n % 32:=by rw[R];show min (n % 32) 32=n % 32;omega
  have h31:(2:Int)^(n % 32)<=2147483648:=G5 (show n % 32<=31 by omega);rw[e2,this,Do,DW,DW];omega
 have ec2:I Ac ((T (Am .u32) (ms.getD (A (I O (Aw (n:Int) 32))) 0) &&& T (Am .u32) (I Ac ((I Ac (1*2^(min (A (I U (AD (n:Int) 32))) (Am .u32))))-1))).toNat)=0:=by
  rw[emask,e1,R,mC (AG tu _) (by omega)];exact hz1.1
 have c1:decide ((I O (Aw (n:Int) 32))<(ms.length:Int))=true:=by rw[e1];simp;omega
 have hb2:Ar (.loop J_) (FV (B (N<0)) (I O (Aw (n:Int) 32)) (I U (AD (n:Int) 32)) ms false 0 [] (I O (Aw (n:Int) 32))) (.exit 2) (FV (B (N<0)) (I O (Aw (n:Int) 32)) (I U (AD (n:Int) 32)) ms false Q.length (lm Q) (ms.length:Nat)):=by
  rw[e1,e2];exact hb
 have ha2:Ar (.loop Lb) (GH (B (N<0)) (I O (Aw (n:Int) 32)) (I U (AD (n:Int) 32)) ms false 0) (.exit 0) (GH (B (N<0)) (I O (Aw (n:Int) 32)) (I U (AD (n:Int) 32)) ms false ((n / 32:Nat):Int)):=by
  rw[e1,e2];exact ha
 have hres:rv (B (N<0)) Q=N / 2^n:=by
  have hpn:=BE n;by_cases hneg:N<0
  ·rw[decide_eq_true hneg];have:N=2^n*(-Ab Q):=by rw[EV];omega
   show -Ab Q=_;conv=>rhs;rw[this]
   rw[BT _ (by omega)]
  ·rw[decide_eq_false hneg];have:N=2^n*Ab Q:=by omega
   show Ab Q=_;conv=>rhs;rw[this]
   rw[BT _ (by omega)]
 rw[hres] at hmk;have hlm:(M N.natAbs)=ms:=hms;unfold Ah;rw[hlm];by_cases hneg:N<0
 ·exact oR _ (B (N<0)) false ms ms Q (n:Nat) _ _ _ c1 (by rw[ec2];rfl) (decide_eq_true hneg) rfl hlb ha2 hb2 (by rw[e1];omega) (by rw[e2];omega) hmk
 ·exact oT _ (B (N<0)) false ms ms Q (n:Nat) _ _ _ c1 (by rw[ec2];rfl) (decide_eq_false hneg) hlb ha2 hb2 (by rw[e1];omega) (by rw[e2];omega) hmk
theorem Wz(n:Int):(cn n).2.length=(M n.natAbs).length:=rfl
theorem O2(n:Int):AP (cn n).2:=BI _
theorem sN{ms:LI}(hu:AP ms){z:Nat}(hz:z / 32<ms.length):ms.getD (z / 32) 0 / 2^(z % 32) % 2=Ab ms / 2^z % 2:=by
 have h1:=Dq ms (show z / 32<=ms.length by omega);have e32:=Q_ (show z % 32<=32 by omega);rw[AA] at e32;have eT:(2:Int)^(32-z % 32)=2*2^(31-z % 32):=by rw[show 32-z % 32=(31-z % 32)+1 by omega,A2];omega
 have h2:Ab (ms.drop (z / 32))=ms.getD (z / 32) 0+2^(z % 32)*(2*2^(31-z % 32))*Ab (ms.drop (z / 32+1)):=by
  rw[<- eT,<- e32,CL hz,Z,Af hz];rfl
 have ht0:=AZ (DS hu (z / 32));have ht1:=Ge hu (z / 32);have hp:=HV z;have hP:=Cy (z / 32);have hS:=BE (z % 32);have hb0:=FE (ms.getD (z / 32) 0) (show (2:Int)^(z % 32) ≠ 0 by omega);have hb1:=Ey (ms.getD (z / 32) 0) hS;have hx:=G2 (ms.getD (z / 32) 0) (2^(z % 32));rw[hp,h1,h2];clear h1 h2 hp e32 eT;generalize Ab (ms.take (z / 32))=T at *
 generalize Ab (ms.drop (z / 32+1))=R at *
 generalize ms.getD (z / 32) 0=x at *
 generalize (4294967296:Int)^(z / 32)=P at *
 generalize (2:Int)^(31-z % 32)=U at *
 generalize (2:Int)^(z % 32)=S at *
 generalize x / S=a at *
 generalize x % S=b at *
 have e:T+P*(x+S*(2*U)*R)=(T+P*b)+P*S*(a+2*(U*R)):=by rw[<- hx];grind
 have hPS:=BL hP hS;have c1:=A6 (A7 hP) hb0;have c2:=Ak (show b+1<=S by omega) (A7 hP);rw[CW,Dn] at c2;rw[e,SO _ _ (by omega),GK (by omega) (by omega),DK,TO]
theorem W0{p:Int}(hp:0<=p/\p<4294967296):(I Ac ((T (Am .u32) p &&& T (Am .u32) 1).toNat)==0)=decide (p % 2=0):=by
 have h:=mC hp (s:=1) (by decide);rw[show ((2:Int)^1-1)=1 by decide,show ((2:Int)^1)=2 by decide] at h;rw[h,aF,beq_iff_eq,decide_eq_true_eq]
theorem Abt{x:Int}(hx:0<=x/\x<4294967296){s:Nat}(hs:s<32):(I Ac ((T (Am .u32) (d x (2^(min (A (s:Int)) (Am .u32)))) &&& T (Am .u32) 1).toNat)==0)=decide (x / 2^s % 2=0):=by
 have em:min (A (s:Int)) (Am .u32)=s:=by rw[R];show min s 32=s;omega
 have hp:=BE s;rw[em,t _ (by omega)];have h1:=J3 hx.1 (A7 hp);have h2:=Int.ediv_le_self (2^s) hx.1;exact W0 ⟨h1,by omega⟩
def DO:Int->Nat->Nat
 | _,0=>0
 | N,e+1=>if N % 2=0 then DO (N / 2) e+1 else 0
theorem O3:∀ (e:Nat) (N:Int),DO N e<=e
 | 0,_=>Ap _
 | e+1,N=>by
  simp only[DO];split
  ·have:=O3 e (N / 2);omega
  ·omega
theorem K0:∀ (e:Nat) (N:Int),(2:Int)^DO N e∣N
 | 0,N=>⟨N,by simp[DO]⟩
 | e+1,N=>by
  simp only[DO];split
  ·obtain⟨q,hq⟩:=K0 e (N / 2);refine⟨q,?_⟩;rw[A2,AH,AA 2 q,<- AH,<- hq];omega
  ·exact⟨N,by simp⟩
theorem oW{e:Nat}{N:Int}(h:N % 2=0):N / 2^(DO (N / 2) e+1)=N / 2 / 2^DO (N / 2) e:=by
 obtain⟨q,hq⟩:=K0 e (N / 2);have hp:=BE (DO (N / 2) e);have hN:N=2^(DO (N / 2) e+1)*q:=by
  rw[A2,AH,AA 2 q,<- AH,<- hq];omega
 generalize DO (N / 2) e=k at *
 have h1:N / 2^(k+1)=q:=by
  conv=>lhs;rw[hN]
  exact BT _ (by have:=BE (k+1);omega)
 have h2:N / 2 / 2^k=q:=by
  conv=>lhs;rw[hq]
  exact BT _ (by omega)
 rw[h1,h2]
theorem W1:∀ e:Nat,DO 0 e=e
 | 0=>rfl
 | e+1=>by simp only[DO];rw[if_pos (by decide),show (0:Int) / 2=0 by decide,W1 e]
theorem Abu(N:Int)(h:N % 2=0):(M (N / 2).natAbs).length<=(M N.natAbs).length:=by
 apply ML;have:=DI (Ci N.natAbs).1;rw[Cr] at this;omega
theorem fU{N:Int}(h0:N ≠ 0):((M N.natAbs).getD 0 0 % 2=0)↔N % 2=0:=by
 have hl:0<(M N.natAbs).length:=by
  have:=Dg N.natAbs;omega
 have h:=sN (BI N.natAbs) (z:=0) (by simpa using hl);rw[Cr] at h;simp only[Nat.zero_div,Nat.zero_mod,CE,aI] at h;omega
theorem ZK:∀ (e:Nat) (N:Int),(M N.natAbs).length<1048576->e<=1000000 ->
  Ar (.loop PS) (JN (cn N) (e:Nat)) (.exit 0) (JN (cn (N / 2^DO N e)) ((e-DO N e:Nat):Int)):=by
 intro e;induction e with
 | zero =>
  intro N _ _;have e1:N / 2^DO N 0=N:=by simp[DO]
  rw[e1];exact Ao (Aug (cn N) ((0:Nat):Int) (by decide)) (by nofun)
 | succ e ih =>
  intro N hN he;have ew:I O (((e+1:Nat):Int)-1)=(e:Int):=by rw[Bl (by omega) (by omega)];omega
  have hd:=Wb (neg:=(cn N).1) (xs:=(cn N).2) (O2 N) 1 (by decide) (by rw[Wz];exact hN);rw[show rv (cn N).1 (cn N).2=N from u N,show (2:Int)^1=2 by decide] at hd;have c1:decide (((e+1:Nat):Int)>0)=true:=by rw[decide_eq_true_eq];omega
  have hlen:(cn N).2.length=(M N.natAbs).length:=rfl;by_cases h2:N % 2=0
  ·have er:DO N (e+1)=DO (N / 2) e+1:=by simp only[DO];rw[if_pos h2]
   rw[er,oW h2,show e+1-(DO (N / 2) e+1)=e-DO (N / 2) e by omega];have r:=ih (N / 2) (by have:=Abu N h2;omega) (by omega);by_cases h0:N=0
   ·have k:=Aud (cn N) ((e+1:Nat):Int) (N / 2) c1 (by rw[h0];rfl) hd;rw[ew] at k;exact Cv.loop k r
   ·have hl:0<(M N.natAbs).length:=by have:=Dg N.natAbs;omega
    have k:=Aue (cn N) ((e+1:Nat):Int) (N / 2) c1 (by rw[beq_eq_false_iff_ne];omega) (by rw[W0 (AG (O2 N) _),decide_eq_true_eq];exact (fU h0).2 h2) (by omega) hd;rw[ew] at k;exact Cv.loop k r
  ·have h0:N ≠ 0:=by intro h;rw[h] at h2;exact h2 (by decide)
   have er:DO N (e+1)=0:=by simp only[DO];rw[if_neg h2]
   have hl:0<(M N.natAbs).length:=by have:=Dg N.natAbs;omega
   rw[er,CE,aI,JV];exact Ao (Auf (cn N) ((e+1:Nat):Int) c1 (by rw[beq_eq_false_iff_ne];omega) (by rw[W0 (AG (O2 N) _),decide_eq_false_iff_not];exact fun h=>h2 ((fU h0).1 h)) (by omega)) (by nofun)
def dyA(n e:Int):AV := o [D (B (n<0)),H (M n.natAbs).length (lm (M n.natAbs)),F O e]
theorem fV{N:Int}{e:Nat}(hN:(M N.natAbs).length<1048576)(he:e<=1000000):RQ 162 [dyA N (e:Nat)] (dyA (N / 2^DO N e) ((e-DO N e:Nat):Int)):=by
 have h1:=VT (neg:=(cn N).1) (xs:=(cn N).2) (O2 N) (by rw[Wz];omega);rw[show rv (cn N).1 (cn N).2=N from u N] at h1;exact Auh (cn N) (e:Nat) N (N / 2^DO N e) _ h1 (ZK e N hN he)
theorem Xx{N:Int}(h0:N ≠ 0){e:Nat}(he:e<=1000000)(hN:(M N.natAbs).length<1048576):∀ (r z:Nat),z+r=e->(2:Int)^z∣N ->
  Ar (.loop RT) (LN (cn N) (e:Nat) (z:Nat)) (.exit 0) (LN (cn N) (e:Nat) ((z+DO (N / 2^z) r:Nat):Int)):=by
 intro r;induction r with
 | zero =>
  intro z hz _;exact Ao (Aub (cn N) (e:Nat) (z:Nat) (by simp;omega)) (by nofun)
 | succ r ih =>
  intro z hz hd;have hin:=fS h0 hd;have e1:I O (Aw (z:Int) 32)=((z / 32:Nat):Int):=by
   rw[B8 (by omega),Bl (by omega) (by omega)];omega
  have e2:I U (AD (z:Int) 32)=((z % 32:Nat):Int):=by
   rw[Bs (by omega),B6];omega
  have ei:I O ((z:Int)+1)=((z+1:Nat):Int):=by rw[Bl (by omega) (by omega)];omega
  have hs:z % 32<32:=HB _ (by decide);have c1:decide ((z:Int)<(e:Int))=true:=by rw[decide_eq_true_eq];omega
  have hb:=sN (BI N.natAbs) hin;rw[Cr] at hb;obtain⟨q,hq⟩:=hd;have hpz:=BE z;have hq1:N / 2^z=q:=by
   conv=>lhs;rw[hq]
   exact BT _ (by omega)
  have hq2:(N.natAbs:Int) / 2^z=(q.natAbs:Int):=by
   have:(N.natAbs:Int)=2^z*(q.natAbs:Int):=by rw[hq,BK,CQ,KS (A7 hpz)]
   rw[this];exact BT _ (by omega)
  rw[hq2] at hb;have ht:=Abt (AG (BI N.natAbs) (z / 32)) hs;have ct:(I Ac ((T (Am .u32) (d ((cn N).2.getD (A (I O (Aw (z:Int) 32))) 0) (2^(min (A (I U (AD (z:Int) 32))) (Am .u32)))) &&& T (Am .u32) 1).toNat)==0)=decide (q % 2=0):=by
   rw[e1,e2,R];refine ht.trans ?_;rw[hb,decide_eq_decide];omega
  have hlen:(cn N).2.length=(M N.natAbs).length:=rfl;rw[hq1];by_cases h2:q % 2=0
  ·have er:DO q (r+1)=DO (q / 2) r+1:=by simp only[DO];rw[if_pos h2]
   have hq3:N=2^(z+1)*(q / 2):=by rw[A2,AH,show 2*(q / 2)=q by omega];exact hq
   have hq4:N / 2^(z+1)=q / 2:=by
    conv=>lhs;rw[hq3]
    exact BT _ (by have:=BE (z+1);omega)
   have hr:=ih (z+1) (by omega) ⟨q / 2,hq3⟩;rw[hq4] at hr;have k:=Atz (cn N) (e:Nat) (z:Nat) c1 (by rw[ct,decide_eq_true_eq];exact h2) (by rw[e1];omega) (by rw[e2];omega);rw[ei] at k;rw[er,show z+(DO (q / 2) r+1)=z+1+DO (q / 2) r by omega];exact Cv.loop k hr
  ·have er:DO q (r+1)=0:=by simp only[DO];rw[if_neg h2]
   rw[er,FR];exact Ao (Aua (cn N) (e:Nat) (z:Nat) c1 (by rw[ct,decide_eq_false_iff_not];exact h2) (by rw[e1];omega) (by rw[e2];omega)) (by nofun)
theorem ZL{N:Int}{e:Nat}(hN:(M N.natAbs).length<1048576)(he:e<=1000000):RQ 130 [Ah N,F O (e:Nat)] (dyA (N / 2^DO N e) ((e-DO N e:Nat):Int)):=by
 have h1:=MS (neg:=(cn N).1) (xs:=(cn N).2) (O2 N) (by rw[Wz];omega);rw[show rv (cn N).1 (cn N).2=N from u N] at h1;by_cases h0:N=0
 ·subst h0;rw[W1,Int.zero_ediv,LV];exact oU (cn 0) (e:Nat) 0 rfl h1
 ·have hl:=Xx h0 he hN e 0 (by omega) (by simp);rw[CE,aI,B_] at hl;have hle:=O3 e N;have hs:=fT h0 (K0 e N) (by omega) (by omega);have k:=oV (cn N) (e:Nat) N _ _ (by rw[beq_eq_false_iff_ne];have:=Dg N.natAbs;omega) h1 hl hs;have ew:I O ((e:Int)-((DO N e:Nat):Int))=((e-DO N e:Nat):Int):=by rw[Bl (by omega) (by omega)];omega
  rw[ew] at k;exact k
def Fw(o:Bool)(ps:List (List Rn))(n:Int)(k:Int)(rs:List Rn)(d:Int)(i:Int):Al:=(Y 2 (C (D o)::(Y 1 (C (sL pc rs)::(C (F O d)::(C (F O i)::(C (sL pp ps)::(C (F O n)::(C (F O k)::(Y 19 []))))))))))
theorem Abv(o:Bool)(ps:List (List Rn))(n:Int)(k:Int)(rs:List Rn)(d:Int)(i:Int)(z:Int)(c1:B (i<=d)=true)(c2:B (z>256)=true)(n1:0<=i/\i<(rs.length:Int))(n2:RQ 177 [As (rs.getD (A i) z0)] (F O z)):Ar Io (Fw o ps n k rs d i) .ret (Fw true ps n k rs d i):=(G CZ 400 [.b true,.v (As (rs.getD (A i) z0)),.r (F O z),.b true] [2,4,5,6,7,8,9] (S c1 (S n1 (S (x n1) (S n2 (S c2 a0))))))
theorem Abw(o:Bool)(ps:List (List Rn))(n:Int)(k:Int)(rs:List Rn)(d:Int)(i:Int)(z:Int)(c1:B (i<=d)=true)(c2:B (z>256)=false)(n1:0<=i/\i<(rs.length:Int))(n2:RQ 177 [As (rs.getD (A i) z0)] (F O z)):Ar Io (Fw o ps n k rs d i) .norm (Fw o ps n k rs d (I O (i+1))):=(G CZ 400 [.b true,.v (As (rs.getD (A i) z0)),.r (F O z),.b false] [2,4,5,6,7,8,9] (S c1 (S n1 (S (x n1) (S n2 (S c2 a0))))))
theorem Abx(o:Bool)(ps:List (List Rn))(n:Int)(k:Int)(rs:List Rn)(d:Int)(i:Int)(c1:B (i<=d)=false):Ar Io (Fw o ps n k rs d i) (.exit 2) (Fw o ps n k rs d i):=(G CZ 400 [.b false] [2,4,5,6,7,8,9] (S c1 a0))
def Ng:ICode:=e [oB 10 .lss 9 8] (.seq (.cond 10 .skip (.exit 0)) (.seq (.block 1 (e [oA 11 7 9 1,o1 12 (.ld 11 11 1 true),a 4 12] (e [a 13 4,r 14 53 [13],a 5 14] (.seq (e [a 15 5,oI 16 .gtr 15 16] (.cond 16 (e [o1 2 (.mov (cb true))] .ret) .skip)) (e [o1 6 (.mov (ci 0))] (.block 2 (.loop (.seq (e [a 17 6,a 18 5,oB 19 .leq 17 18] (.cond 19 .skip (.exit 2))) (.seq (.block 3 (e [a 22 4,a 23 6,oA 24 22 23 2,oL 25 24 24 2,r 26 177 [25],oI 27 .gtr 26 256] (.cond 27 (e [o1 2 (.mov (cb true))] .ret) .skip))) (rg [a 20 6,oI 21 .add 20 1,a 6 21])))))))))) (rg [oI 28 .add 9 1,a 9 28])))
def H1(o:Bool)(ps:List (List Rn))(n:Int)(k:Int):Al:=(Y 2 (C (D o)::(Y 4 (C (sL pp ps)::(C (F O n)::(C (F O k)::(Y 19 [])))))))
theorem Auk(o:Bool)(ps:List (List Rn))(n:Int)(k:Int)(d:Int)(c1:B (k<n)=true)(c2:B (d>16)=true)(n1:0<=k/\k<(ps.length:Int))(n2:RQ 53 [H ((ps.getD (A k) []).length) (pc (ps.getD (A k) []))] (F O d)):Ar Ng (H1 o ps n k) .ret (H1 true ps n k):=(W (Cv.seq (G (t:=(Y 2 (C (D o)::(Y 4 (C (sL pp ps)::(vi n::(vi k::(Y 19 [])))))))) CZ 400 [.b true] [2,7,8,9] (S c1 a0)) (AJ (CJ (W (W (W (AJ (G CZ 400 [.v (H ((ps.getD (A k) []).length) (pc (ps.getD (A k) []))),.r (F O d),.b true] [2,7,8,9] (S n1 (S (Ff n1) (S n2 (S c2 a0))))) (by nofun)))))) (by nofun))))
theorem Aul(o:Bool)(ps:List (List Rn))(n:Int)(k:Int)(d i:Int)(c1:B (k<n)=true)(c2:B (d>16)=false)(n1:0<=k/\k<(ps.length:Int))(n2:RQ 53 [H ((ps.getD (A k) []).length) (pc (ps.getD (A k) []))] (F O d))(hl3:Ar (.loop Io) (Fw o ps n k (ps.getD (A k) []) d 0) (.exit 2) (Fw o ps n k (ps.getD (A k) []) d i)):Ar Ng (H1 o ps n k) .norm (H1 o ps n (I O (k+1))):=(W (Cv.seq (G (t:=(Y 2 (C (D o)::(Y 4 (C (sL pp ps)::(vi n::(vi k::(Y 19 [])))))))) CZ 400 [.b true] [2,7,8,9] (S c1 a0)) (Cv.seq (Cd (W (W (W (Cv.seq (G CZ 400 [.v (H ((ps.getD (A k) []).length) (pc (ps.getD (A k) []))),.r (F O d),.b false] [2,4,5,6,7,8,9] (S n1 (S (Ff n1) (S n2 (S c2 a0))))) (Cv.block hl3)))))) (G CZ 400 [] [2,7,8,9] a0))))
theorem Aum(o:Bool)(ps:List (List Rn))(n:Int)(k:Int)(c1:B (k<n)=false):Ar Ng (H1 o ps n k) (.exit 0) (H1 o ps n k):=(W (AJ (G CZ 400 [.b false] [2,7,8,9] (S c1 a0)) (by nofun)))
def sO(o:Bool)(ps:List (List Rn))(n:Int)(k:Int):Al:=(Y 2 (C (D o)::(Y 4 (C (sL pp ps)::(C (F O n)::(C (F O k)::(Y 19 [])))))))
theorem Aby(o:Bool)(ps:List (List Rn))(n:Int)(k:Int)(d i:Int)(c1:B (k<n)=true)(c2:B (d>16)=false)(n1:0<=k/\k<(ps.length:Int))(n2:RQ 53 [H ((ps.getD (A k) []).length) (pc (ps.getD (A k) []))] (F O d))(hl3:Ar (.loop Io) (Fw o ps n k (ps.getD (A k) []) d 0) .ret (Fw true ps n k (ps.getD (A k) []) d i)):Ar rU (sO o ps n k) .ret (sO true ps n k):=(W (Cv.seq (G (t:=(Y 2 (C (D o)::(Y 4 (C (sL pp ps)::(vi n::(vi k::(Y 19 [])))))))) CZ 400 [.b true] [2,7,8,9] (S c1 a0)) (AJ (CJ (W (W (W (Cv.seq (G CZ 400 [.v (H ((ps.getD (A k) []).length) (pc (ps.getD (A k) []))),.r (F O d),.b false] [2,4,5,6,7,8,9] (S n1 (S (Ff n1) (S n2 (S c2 a0))))) (CJ (dM (t':=(Y 2 (C (D true)::(Y 4 (C (sL pp ps)::(C (F O n)::(C (F O k)::(Y 19 [])))))))) [2,7,8,9] hl3 (by kernel_rfl)))))))) (by nofun))))
theorem oX(ps:List (List Rn))(n k:Int)(hl1:Ar (.loop Ng) (H1 false ps (ps.length:Int) 0) (.exit 0) (H1 false ps n k)):RQ 147 [sL pp ps] (D false):=A8 RY (Y 2 (C (D false)::(Y 26 []))) (q (Cv.seq (G CZ 400 [] [2,7,8,9] a0) (Cv.seq (Cv.block hl1) (G CZ 400 [] [2] a0))))
theorem oY(ps:List (List Rn))(n k:Int)(hl1:Ar (.loop Ng) (H1 false ps (ps.length:Int) 0) .ret (H1 true ps n k)):RQ 147 [sL pp ps] (D true):=A8 RY (Y 2 (C (D true)::(Y 4 (C (sL pp ps)::(C (F O n)::(C (F O k)::(Y 19 []))))))) (q (Cv.seq (G CZ 400 [] [2,7,8,9] a0) (AJ (CJ hl1) (by nofun))))
def O4(x:Int):Bool:=decide (256<(M x.natAbs).length)
def CP(p:LI):Bool:=decide (17<(Aa p).length) || (Aa p).any O4
theorem oZ{p:LI}{f:Int->Bool}(h:p.any f=false)(i:Nat)(hi:i<p.length):f (p.getD i 0)=false:=by
 rw[P9] at h;rw[Z,Af hi];simpa using h _ (CT hi)
theorem Abz{p:LI}{f:Int->Bool}(h:p.any f=true):∃ i,i<p.length/\f (p.getD i 0)=true:=by
 obtain⟨x,hx,hf⟩:=YQ.1 h;obtain⟨i,hi,rfl⟩:=H3.1 hx;refine⟨i,hi,?_⟩;rw[Z,Af hi];simpa using hf
section
variable {rs:List Rn} {ps:List (List Rn)} {n k:Int}
theorem W2(hg:∀ r∈rs,AO 1048576 r)(hN:rs.length<=1048576) :
  (CP (Q rs)=false->(Aa (Q rs)).length<=17->Ar (.loop Io) (Fw false ps n k rs (((l (Q rs) rs.length:Nat):Int)-1) 0) (.exit 2) (Fw false ps n k rs (((l (Q rs) rs.length:Nat):Int)-1) (l (Q rs) rs.length:Nat))) /\
  (CP (Q rs)=true->(Aa (Q rs)).length<=17->∃ j:Nat,Ar (.loop Io) (Fw false ps n k rs (((l (Q rs) rs.length:Nat):Int)-1) 0) .ret (Fw true ps n k rs (((l (Q rs) rs.length:Nat):Int)-1) (j:Nat))):=by
 have hle:=GR (Q rs) rs.length;have hlen:(Aa (Q rs)).length=l (Q rs) rs.length:=by rw[Fa,s]
 have step:∀ t:Nat,t<l (Q rs) rs.length->O4 (P (rs.getD t z0))=false->Ar Io (Fw false ps n k rs (((l (Q rs) rs.length:Nat):Int)-1) (t:Nat)) .norm (Fw false ps n k rs (((l (Q rs) rs.length:Nat):Int)-1) ((t+1:Nat):Int)):=by
  intro t ht hb;have ei:I O ((t:Int)+1)=((t+1:Nat):Int):=by rw[Bl (by omega) (by omega)];omega
  obtain⟨g1,g2⟩:=Bg hg t;have k2:=Abw false ps n k rs (((l (Q rs) rs.length:Nat):Int)-1) (t:Nat) (((M (P (rs.getD t z0)).natAbs).length:Nat):Int) (by simp;omega) (by unfold O4 at hb;simp only[decide_eq_false_iff_not] at hb |-;omega) (by omega) (by rw[R];exact Wa g1 g2);rwa [ei] at k2
 refine⟨fun hl _ => ?_,fun hl h17 => ?_⟩
 ·unfold CP at hl;rw[SP] at hl;have h:=FB (prog:=AY) (c:=Io) (ex := .exit 2) (fun t=>Fw false ps n k rs (((l (Q rs) rs.length:Nat):Int)-1) (t:Nat)) (l (Q rs) rs.length) (by nofun) (Abx false ps n k rs _ _ (by simp;omega)) 0 (Ba _) (fun t _ h2=>step t h2 (by
   have:=oZ hl.2 t (by omega);rwa [Dc,C7] at this))
  exact h
 ·unfold CP at hl;rw[decide_eq_false (by omega),WM] at hl;obtain⟨i,hi,hf⟩:=Abz hl;rcases Ju (fun j=>O4 (P (rs.getD j z0))) (l (Q rs) rs.length) _ 0 (by rw[B_]) with h | ⟨j,_,h2,h3,h4⟩
  ·have:=h i (by omega) (by omega);rw[Dc,C7] at hf;rw[hf] at this;cases this
  ·obtain⟨g1,g2⟩:=Bg hg j;have k1:=Abv false ps n k rs (((l (Q rs) rs.length:Nat):Int)-1) (j:Nat) (((M (P (rs.getD j z0)).natAbs).length:Nat):Int) (by simp;omega) (by unfold O4 at h3;simp only[decide_eq_true_eq] at h3 |-;omega) (by omega) (by rw[R];exact Wa g1 g2);exact⟨j,FB (prog:=AY) (c:=Io) (ex := .ret) (fun t=>Fw false ps n k rs (((l (Q rs) rs.length:Nat):Int)-1) (t:Nat)) j (by nofun) k1 0 (Ba _) (fun t _ h6=>step t (by omega) (h4 t (by omega) h6))⟩
end
theorem Mu{α:Type}{l:List (List α)}{i:Nat}(h:i<l.length):l.getD i []∈l:=by
 rw[Z,Af h];exact CT h
theorem T8{ps:List (List Rn)}(hg:∀ p∈ps,(∀ r∈p,AO 1048576 r)/\p.length<=1048576)(hN:ps.length<=1048576):RQ 147 [sL pp ps] (D (ps.any fun p=>CP (Q p))):=by
 have hdeg:∀ t,t<ps.length->RQ 53 [H (ps.getD t []).length (pc (ps.getD t []))] (F O (((l (Q (ps.getD t [])) (ps.getD t []).length:Nat):Int)-1)):=fun t ht=>Gm (hg _ (Mu ht)).1 (hg _ (Mu ht)).2;have step:∀ t:Nat,t<ps.length->CP (Q (ps.getD t []))=false->Ar Ng (H1 false ps (ps.length:Nat) (t:Nat)) .norm (H1 false ps (ps.length:Nat) ((t+1:Nat):Int)):=by
  intro t ht hl;have ei:I O ((t:Int)+1)=((t+1:Nat):Int):=by rw[Bl (by omega) (by omega)];omega
  obtain⟨g1,g2⟩:=hg _ (Mu ht);have hlen:(Aa (Q (ps.getD t []))).length=l (Q (ps.getD t [])) (ps.getD t []).length:=by rw[Fa,s]
  have h17:(Aa (Q (ps.getD t []))).length<=17:=by
   unfold CP at hl;rw[SP,decide_eq_false_iff_not] at hl;omega
  have k2:=Aul false ps (ps.length:Nat) (t:Nat) (((l (Q (ps.getD t [])) (ps.getD t []).length:Nat):Int)-1) _ (by simp;omega) (by rw[decide_eq_false_iff_not];omega) (by omega) (by rw[R];exact hdeg t ht) (by rw[R];exact (W2 g1 g2).1 hl h17);rwa [ei] at k2
 rcases Ju (fun j=>CP (Q (ps.getD j []))) ps.length _ 0 (by rw[B_]) with h | ⟨j,_,h2,h3,h4⟩
 ·have hany:(ps.any fun p=>CP (Q p))=false:=by
   rw[P9];intro p hp;obtain⟨i,hi,rfl⟩:=H3.1 hp;have:=h i (by omega) hi;rw[Z,Af hi] at this;simpa using this
  rw[hany];exact oX ps _ _ (FB (prog:=AY) (c:=Ng) (ex := .exit 0) (fun t=>H1 false ps (ps.length:Nat) (t:Nat)) ps.length (by nofun) (Aum false ps _ _ (by simp)) 0 (Ba _) (fun t _ h6=>step t h6 (h t (by omega) h6)))
 ·have hany:(ps.any fun p=>CP (Q p))=true:=by
   rw[YQ];exact⟨_,Mu h2,h3⟩
  rw[hany];obtain⟨g1,g2⟩:=hg _ (Mu h2);have hlen:(Aa (Q (ps.getD j []))).length=l (Q (ps.getD j [])) (ps.getD j []).length:=by rw[Fa,s]
  have out:Ar Ng (H1 false ps (ps.length:Nat) (j:Nat)) .ret (H1 true ps (ps.length:Nat) (j:Nat)):=by
   by_cases h17:(Aa (Q (ps.getD j []))).length<=17
   ·obtain⟨i,hi⟩:=(W2 (ps:=ps) (n:=(ps.length:Nat)) (k:=(j:Nat)) g1 g2).2 h3 h17;exact Aby false ps (ps.length:Nat) (j:Nat) (((l (Q (ps.getD j [])) (ps.getD j []).length:Nat):Int)-1) _ (by simp;omega) (by rw[decide_eq_false_iff_not];omega) (by omega) (by rw[R];exact hdeg j h2) (by rw[R];exact hi)
   ·exact Auk false ps (ps.length:Nat) (j:Nat) (((l (Q (ps.getD j [])) (ps.getD j []).length:Nat):Int)-1) (by simp;omega) (by rw[decide_eq_true_eq];omega) (by omega) (by rw[R];exact hdeg j h2)
  exact oY ps _ _ (FB (prog:=AY) (c:=Ng) (ex := .ret) (fun t=>H1 false ps (ps.length:Nat) (t:Nat)) j (by nofun) out 0 (Ba _) (fun t _ h6=>step t (by omega) (h4 t (by omega) h6)))
def Lw(o:Bool)(ts:List Rn)(i:Int):Al:=(Y 2 (C (D o)::(C (sL pc ts)::(C (F O i)::(Y 17 [])))))
theorem A1d(o:Bool)(ts:List Rn)(i:Int)(z:Bool)(c1:B (i<(ts.length:Int))=true)(c2:(z)=true)(n1:0<=i/\i<(ts.length:Int))(n2:RQ 107 [As (ts.getD (A i) z0)] (D z)):Ar QJ (Lw o ts i) .ret (Lw true ts i):=(G E5 400 [.b true,.v (As (ts.getD (A i) z0)),.r (D z),.b true] [2,3,4] (S c1 (S n1 (S (x n1) (S n2 (S c2 a0))))))
theorem A1e(o:Bool)(ts:List Rn)(i:Int)(z:Bool)(c1:B (i<(ts.length:Int))=true)(c2:(z)=false)(n1:0<=i/\i<(ts.length:Int))(n2:RQ 107 [As (ts.getD (A i) z0)] (D z)):Ar QJ (Lw o ts i) .norm (Lw o ts (I O (i+1))):=(G E5 400 [.b true,.v (As (ts.getD (A i) z0)),.r (D z),.b false] [2,3,4] (S c1 (S n1 (S (x n1) (S n2 (S c2 a0))))))
theorem A1f(o:Bool)(ts:List Rn)(i:Int)(c1:B (i<(ts.length:Int))=false):Ar QJ (Lw o ts i) (.exit 0) (Lw o ts i):=(G E5 400 [.b false] [2,3,4] (S c1 a0))
theorem fW(rs ts:List Rn)(c1:(B ((I O ((ts.length:Int)-1))>16))=true)(n1:RQ 46 [sL pc rs] (L 2 ts.length (pc ts))):RQ 58 [sL pc rs] (D true):=A8 UG (Y 2 (C (D true)::(Y 19 []))) (W (W (q (AJ (G E5 400 [.r (L 2 ts.length (pc ts)),.b true] [2] (S n1 (S c1 a0))) (by nofun)))))
theorem fX(rs ts:List Rn)(i:Int)(c1:(B ((I O ((ts.length:Int)-1))>16))=false)(n1:RQ 46 [sL pc rs] (L 2 ts.length (pc ts)))(hl2:Ar (.loop QJ) (Lw false ts 0) (.exit 0) (Lw false ts i)):RQ 58 [sL pc rs] (D false):=A8 UG (Y 2 (C (D false)::(Y 19 []))) (W (W (q (Cv.seq (G E5 400 [.r (L 2 ts.length (pc ts)),.b false] [2,3,4] (S n1 (S c1 a0))) (Cv.seq (Cv.block hl2) (G E5 400 [] [2] a0))))))
theorem fY(rs ts:List Rn)(i:Int)(c1:(B ((I O ((ts.length:Int)-1))>16))=false)(n1:RQ 46 [sL pc rs] (L 2 ts.length (pc ts)))(hl2:Ar (.loop QJ) (Lw false ts 0) .ret (Lw true ts i)):RQ 58 [sL pc rs] (D true):=A8 UG (Y 2 (C (D true)::(C (sL pc ts)::(C (F O i)::(Y 17 []))))) (W (W (q (Cv.seq (G E5 400 [.r (L 2 ts.length (pc ts)),.b false] [2,3,4] (S n1 (S c1 a0))) (AJ (CJ hl2) (by nofun))))))
theorem A1g(rs ts:List Rn)(n1:RQ 46 [sL pc rs] (L 2 ts.length (pc ts))):RQ 21 [sL pc rs] (F O (I O ((ts.length:Int)-1))):=i (fn:=bG) E5 rfl 400 rfl [.r (L 2 ts.length (pc ts))] (S n1 a0)
def T9(n:Int)(x:Int):Al:=(Y 4 (C (F O n)::(C (F Ac x)::(Y 23 []))))
theorem A1h(n:Int)(x:Int)(c1:B (x>0)=true):Ar bJ (T9 n x) .norm (T9 (I O (n+1)) (d x (2^(min (A 1) (Am .u32))))):=(G E5 400 [.b true] [4,5] (S c1 (S (show ¬ (1:Int)<0 from (by decide)) a0)))
theorem sP(n:Int)(x:Int)(c1:B (x>0)=false):Ar bJ (T9 n x) (.exit 0) (T9 n x):=(G E5 400 [.b false] [4,5] (S c1 a0))
theorem Aca(b:Bool)(xs ms:LI)(c1:((ms.length:Int)==0)=true)(n1:RQ 99 [sL lm xs] (L 1 ms.length (lm ms))):RQ 51 [o [D b,sL lm xs]] (F O 0):=A8 XL (Y 2 (C (F O 0)::(Y 26 []))) (W (W (W (q (AJ (G E5 400 [.r (L 1 ms.length (lm ms)),.b true] [2] (S n1 (S c1 a0))) (by nofun))))))
theorem Acb(b:Bool)(xs ms:LI)(n x:Int)(c1:((ms.length:Int)==0)=false)(n1:RQ 99 [sL lm xs] (L 1 ms.length (lm ms)))(n2:0<=(I O ((ms.length:Int)-1))/\(I O ((ms.length:Int)-1))<(ms.length:Int))(hl3:Ar (.loop bJ) (T9 (I O (32*(I O ((ms.length:Int)-1)))) (ms.getD (A (I O ((ms.length:Int)-1))) 0)) (.exit 0) (T9 n x)):RQ 51 [o [D b,sL lm xs]] (F O n):=A8 XL (Y 2 (C (F O n)::(Y 26 []))) (W (W (W (q (Cv.seq (G E5 400 [.r (L 1 ms.length (lm ms)),.b false,.v (F Ac (ms.getD (A (I O ((ms.length:Int)-1))) 0))] [4,5] (S n1 (S c1 (S n2 (S (y n2) a0))))) (Cv.seq (Cv.block hl3) (G E5 400 [] [2] a0)))))))
theorem Xy{xs:LI}(hu:AP xs)(neg:Bool):decide (256<(Aa xs).length)=O4 (rv neg xs):=by
 unfold O4;rw[Mf (neg:=neg) hu]
theorem Nh{rs:List Rn}(hg:∀ r∈rs,AO 1048576 r)(hN:rs.length<=1048576):RQ 58 [sL pc rs] (D (CP (Q rs))):=by
 have htr:=ET hg hN;have hl:=Bq (Q rs);rw[s] at hl;have hf:∀ x∈Aa (Q rs),Bm 1048576 x:=Gc (C1 hg);have gts:=Kp hf;have hvs:=v (Aa (Q rs));have hpk:pk (Aa (Q rs))=pc ((Aa (Q rs)).map cn):=rfl;(first|rw[hpk,<- N (f:=cn)] at htr|(rw[hpk] at htr;unfold sL at htr;rw[<- N (f:=cn)] at htr));have hlm:((Aa (Q rs)).map cn).length=(Aa (Q rs)).length:=N ..;have hgd:∀ t,P (((Aa (Q rs)).map cn).getD t z0)=(Aa (Q rs)).getD t 0:=fun t=>by rw[<- C7,hvs]
 generalize (Aa (Q rs)).map cn=ts at *
 have e1:I O ((ts.length:Int)-1)=(ts.length:Int)-1:=Bl (by omega) (by omega);have hcall:∀ t,RQ 107 [o [D (ts.getD t z0).1,H (ts.getD t z0).2.length (lm (ts.getD t z0).2)]] (D (O4 ((Aa (Q rs)).getD t 0))):=fun t=>by
  obtain⟨g1,g2⟩:=Bg gts t;have h:=Tp (neg:=(ts.getD t z0).1) (xs:=(ts.getD t z0).2) g2;rw[Xy g1 (ts.getD t z0).1,show rv (ts.getD t z0).1 (ts.getD t z0).2=P (ts.getD t z0) from rfl,hgd] at h;exact h
 have step:∀ t:Nat,t<ts.length->O4 ((Aa (Q rs)).getD t 0)=false->Ar QJ (Lw false ts (t:Nat)) .norm (Lw false ts ((t+1:Nat):Int)):=by
  intro t ht hb;have ei:I O ((t:Int)+1)=((t+1:Nat):Int):=by rw[Bl (by omega) (by omega)];omega
  have hc:=hcall t;rw[hb] at hc;have k2:=A1e false ts (t:Nat) false (by simp;omega) rfl (by omega) (by rw[R];exact hc);rwa [ei] at k2
 by_cases h17:(Aa (Q rs)).length<=17
 ·have c1:decide (I O ((ts.length:Int)-1)>16)=false:=by rw[e1,decide_eq_false_iff_not];omega
  rcases Ju (fun j=>O4 ((Aa (Q rs)).getD j 0)) ts.length _ 0 (by rw[B_]) with h | ⟨j,_,h2,h3,h4⟩
  ·have hf:CP (Q rs)=false:=by
    unfold CP;rw[decide_eq_false (by omega),WM,P9];intro x hx;obtain⟨i,hi,rfl⟩:=H3.1 hx;have:=h i (by omega) (by omega);rw[Z,Af hi] at this;simpa using this
   rw[hf];exact fX rs ts _ c1 htr (FB (prog:=AY) (c:=QJ) (ex := .exit 0) (fun t=>Lw false ts (t:Nat)) ts.length (by nofun) (A1f false ts _ (by simp)) 0 (Ba _) (fun t _ h6=>step t h6 (h t (by omega) h6)))
  ·have hf:CP (Q rs)=true:=by
    unfold CP;rw[decide_eq_false (by omega),WM,YQ];refine⟨(Aa (Q rs)).getD j 0,?_,h3⟩;rw[Z,Af (by omega)];exact CT _
   rw[hf];have hc:=hcall j;rw[h3] at hc;have out:=A1d false ts (j:Nat) true (by simp;omega) rfl (by omega) (by rw[R];exact hc);exact fY rs ts _ c1 htr (FB (prog:=AY) (c:=QJ) (ex := .ret) (fun t=>Lw false ts (t:Nat)) j (by nofun) out 0 (Ba _) (fun t _ h6=>step t (by omega) (h4 t (by omega) h6)))
 ·have hf:CP (Q rs)=true:=by unfold CP;rw[decide_eq_true (by omega)];rfl
  rw[hf];exact fW rs ts (by rw[e1,decide_eq_true_eq];omega) htr
theorem LO{rs:List Rn}(hg:∀ r∈rs,AO 1048576 r)(hN:rs.length<=1048576):RQ 21 [sL pc rs] (F O (((Aa (Q rs)).length:Nat)-1:Int)):=by
 have htr:=ET hg hN;have hl:=Bq (Q rs);rw[s] at hl;have hpk:pk (Aa (Q rs))=pc ((Aa (Q rs)).map cn):=rfl;(first|rw[hpk,<- N (f:=cn)] at htr|(rw[hpk] at htr;unfold sL at htr;rw[<- N (f:=cn)] at htr));have h:=A1g rs _ htr;rw[Bl (by omega) (by rw[N];omega),N] at h;exact h
theorem pC{x:Nat}(h:x ≠ 0):CR x=CR (x / 2)+1:=by
 unfold CR;rw[if_neg h];by_cases h2:x / 2=0
 ·have:x=1:=by omega
  subst this;decide
 ·rw[if_neg h2,GU x 1 (by simpa using h2)]
theorem fZ:∀ (f x:Nat) (n:Nat),x<=f->x<4294967296->n+CR x<=2251799813685248->Ar (.loop bJ) (T9 (n:Nat) (x:Nat)) (.exit 0) (T9 ((n+CR x:Nat):Int) 0):=by
 intro f;induction f with
 | zero =>
  intro x n hx _ _;have:x=0:=by omega
  subst this;exact Ao (sP _ _ (by simp)) (by nofun)
 | succ f ih =>
  intro x n hx hb hn;by_cases h0:x=0
  ·subst h0;exact Ao (sP _ _ (by simp)) (by nofun)
  ·have k:=A1h (n:Nat) (x:Nat) (by simp;omega);have e1:d (x:Int) (2^(min (A 1) (Am .u32)))=((x / 2:Nat):Int):=kY x 1 (by omega);rw[e1,Bl (by omega) (by omega),show (n:Int)+1=((n+1:Nat):Int) by omega] at k;have hbl:=pC h0;have h:=ih (x / 2) (n+1) (by omega) (by omega) (by omega);rw[show n+1+CR (x / 2)=n+CR x by omega] at h;exact Cv.loop k h
theorem HR{neg:Bool}{xs:LI}(hu:AP xs)(hN:xs.length<=35184372088832):RQ 51 [o [D neg,sL lm xs]] (F O ((CR (rv neg xs).natAbs:Nat):Int)):=by
 have hm:=DX (xs:=xs) hN;rw[Mf (neg:=neg) hu] at hm;have l1:=EM (neg:=neg) hu;generalize rv neg xs=a at *
 by_cases h0:a.natAbs=0
 ·have h:=Aca neg xs _ (by rw[h0];rfl) hm;rw[show CR a.natAbs=0 by unfold CR;rw[if_pos h0]];exact h
 ·obtain⟨t1,x,t2,t3,t4,t5⟩:=Ym h0;have e1:I O ((((M a.natAbs).length:Nat):Int)-1)=(((M a.natAbs).length-1:Nat):Int):=by rw[Bl (by omega) (by omega)];omega
  have hlog:Cg x<32:=(LJ t3).2 t4;have hbx:CR x=Cg x+1:=by unfold CR;rw[if_neg t3]
  have e3:I O (32*(((M a.natAbs).length-1:Nat):Int))=((32*((M a.natAbs).length-1):Nat):Int):=by rw[Bl (by omega) (by omega)];omega
  have hl:=fZ x x (32*((M a.natAbs).length-1)) (Ap _) t4 (by omega);have h:=Acb neg xs (M a.natAbs) _ _ (by rw[beq_eq_false_iff_ne];omega) hm (by rw[e1];omega) (by rw[e1,R,t2,e3];exact hl);have e2:CR a.natAbs=32*((M a.natAbs).length-1)+CR x:=by
   rw[hbx];unfold CR;rw[if_neg h0,GU a.natAbs (32*((M a.natAbs).length-1)) (by rw[t5];exact t3),t5];omega
  rw[e2];exact h
theorem pD{n k:Nat}(h:n<32*k):Bm k ((2:Int)^n):=by
 unfold Bm;rw[N5];show 2^n<4294967296^k;rw[show (4294967296:Nat)=2^32 by decide,<- A6w];exact Qf (by decide) h
theorem S7{a b:Nat}(ha:a<=4096)(hb:b<=4096):I O ((if (b:Int)>(a:Int) then (b:Int) else (a:Int))-(a:Int))=((max a b-a:Nat):Int):=by
 split <;> rw[Bl (by omega) (by omega)] <;> omega
theorem S8{a b:Nat}(ha:a<=4096)(hb:b<=4096):I O ((if (b:Int)>(a:Int) then (b:Int) else (a:Int))-(b:Int))=((max a b-b:Nat):Int):=by
 split <;> rw[Bl (by omega) (by omega)] <;> omega
theorem gA{a b:Nat}(ha:a<=4096)(hb:b<=4096):I O ((if (b:Int)>(a:Int) then (b:Int) else (a:Int))+1)=((max a b+1:Nat):Int):=by
 split <;> rw[Bl (by omega) (by omega)] <;> omega
theorem gB{a b c:Int}(hc:0<c):CI (a*c) (b*c)=CI a b:=by
 unfold CI;have h1:a*c<b*c↔a<b:=pF hc;have h2:b*c<a*c↔b<a:=pF hc;simp only[h1,h2]
theorem Aun(X Y:Int)(a b:Nat):CI (X*2^(max a b-a)) (Y*2^(max a b-b))=CI (X*2^b) (Y*2^a):=by
 have h:=gB (a:=X*2^(max a b-a)) (b:=Y*2^(max a b-b)) (BE (min a b));rw[<- h,AH,AH,<- BB,<- BB,show max a b-a+min a b=b by omega,show max a b-b+min a b=a by omega]
def j(r:Rn)(e:Int):AV := o [D r.1,H r.2.length (lm r.2),F O e]
def vE(e:Int):Bool:=decide (e>=0)&&decide (e<=4096)
theorem Lx{r:Rn}{e:Int}(hg:AO 200 r):RQ 59 [j r e] (D (vE e)):=by
 unfold vE;by_cases h1:e>=0
 ·by_cases h2:e<=4096
  ·have h2':=hg.2;have hs:=Tp (neg:=r.1) (xs:=r.2) (by omega);have ht:=Bq r.2;rw[decide_eq_false (show ¬ 256<(Aa r.2).length by omega)] at hs;rw[decide_eq_true h1,decide_eq_true h2];exact Abo r e false (decide_eq_true h1) (decide_eq_true h2) hs
  ·rw[decide_eq_true h1,decide_eq_false h2];exact Abp r e (decide_eq_true h1) (decide_eq_false h2)
 ·rw[decide_eq_false h1,I8];exact Abq r e (decide_eq_false h1)
theorem P6{r:Rn}(hr:AO 200 r){n:Nat}(hn:n<=4096):RQ 104 [As r,F O (n:Nat)] (Ah (P r*2^n))/\RQ 84 [As r,F O (n:Nat)] (CD (P r*2^n))/\Bm 330 (P r*2^n):=by
 have h2:=hr.2;exact⟨Yr hr.1 n (by omega) (by omega),QZ hr.1 n (by omega),(hr.fits.mul (pD (k:=129) (by omega))).mono (by omega)⟩
def Co(x:Int)(a:Nat)(y:Int)(b:Nat):Int:=CI (x*2^b) (y*2^a)
def I0(x:Int)(a:Nat)(y:Int)(b:Nat):Int:=x*2^(max a b-a)+y*2^(max a b-b)
def P7(x:Int)(a:Nat)(y:Int)(b:Nat):Int:=I0 x a y b / 2^DO (I0 x a y b) (max a b+1)
def Nu(x:Int)(a:Nat)(y:Int)(b:Nat):Nat:=max a b+1-DO (I0 x a y b) (max a b+1)
section
variable {r t:Rn} (hr:AO 200 r) (ht:AO 200 t) {a b:Nat} (ha:a<=4096) (hb:b<=4096)
include hr ht ha hb
theorem S9:RQ 55 [j r (a:Nat),j t (b:Nat)] (F O (Co (P r) a (P t) b)):=by
 obtain⟨x1,_,x3⟩:=P6 hr (n:=max a b-a) (by omega);obtain⟨y1,_,y3⟩:=P6 ht (n:=max a b-b) (by omega);have g1:=BG x3;have g2:=BG y3;have p:=Abs (na:=(cn (P r*2^(max a b-a))).1) (nb:=(cn (P t*2^(max a b-b))).1) g1.1 g2.1 (by have:=g1.2;omega) (by have:=g2.2;omega);rw[show ∀ n,rv (cn n).1 (cn n).2=n from u,show ∀ n,rv (cn n).1 (cn n).2=n from u,Aun] at p;exact A1a r t (a:Nat) (b:Nat) _ _ _ (by rw[S7 ha hb];exact x1) (by rw[S8 ha hb];exact y1) p
theorem Eh:RQ 33 [j r (a:Nat),j t (b:Nat)] (F O (Co (P r) a (P t) b)):=by
 obtain⟨_,x2,x4⟩:=P6 hr (n:=b) hb;obtain⟨_,y2,y4⟩:=P6 ht (n:=a) ha;have g3:=BG x4;have g4:=BG y4;have q:=Abr (na:=(cn (P r*2^b)).1) (nb:=(cn (P t*2^a)).1) g3.1 g4.1 (by have:=g3.2;omega) (by have:=g4.2;omega);rw[show ∀ n,rv (cn n).1 (cn n).2=n from u,show ∀ n,rv (cn n).1 (cn n).2=n from u] at q;exact A1b r t (a:Nat) (b:Nat) _ _ _ x2 y2 q
theorem Y8:Bm 331 (I0 (P r) a (P t) b):=by
 obtain⟨_,_,x3⟩:=P6 hr (n:=max a b-a) (by omega);obtain⟨_,_,y3⟩:=P6 ht (n:=max a b-b) (by omega);exact x3.add y3
theorem ZM:RQ 133 [j r (a:Nat),j t (b:Nat)] (dyA (P7 (P r) a (P t) b) ((Nu (P r) a (P t) b:Nat):Int)):=by
 obtain⟨x1,_,x3⟩:=P6 hr (n:=max a b-a) (by omega);obtain⟨y1,_,y3⟩:=P6 ht (n:=max a b-b) (by omega);have hX:=x3.len;have hY:=y3.len;have p:=xT (a:=P r*2^(max a b-a)) (b:=P t*2^(max a b-b)) (by omega) (by omega);have hZl:=(Y8 hr ht ha hb).len;have k1:=ZL (N:=I0 (P r) a (P t) b) (e:=max a b+1) (by omega) (by omega);exact Auc r t (a:Nat) (b:Nat) _ _ _ _ _ (by rw[S7 ha hb];exact x1) (by rw[S8 ha hb];exact y1) p (by rw[gA ha hb];exact k1)
theorem W3:RQ 121 [j r (a:Nat),j t (b:Nat)] (dyA (P7 (P r) a (P t) b) ((Nu (P r) a (P t) b:Nat):Int)):=by
 obtain⟨_,x2,x3⟩:=P6 hr (n:=max a b-a) (by omega);obtain⟨_,y2,y3⟩:=P6 ht (n:=max a b-b) (by omega);have q:=Qa (na:=(cn (P r*2^(max a b-a))).1) (nb:=(cn (P t*2^(max a b-b))).1) (BG x3).1 (BG y3).1 (by have:=(BG x3).2;omega) (by have:=(BG y3).2;omega);rw[show ∀ n,rv (cn n).1 (cn n).2=n from u,show ∀ n,rv (cn n).1 (cn n).2=n from u] at q;have hZl:=(Y8 hr ht ha hb).len;have k2:=fV (N:=I0 (P r) a (P t) b) (e:=max a b+1) (by omega) (by omega);exact Aui r t (a:Nat) (b:Nat) _ _ _ _ _ (by rw[S7 ha hb];exact x2) (by rw[S8 ha hb];exact y2) q (by rw[gA ha hb];exact k2)
end
def IU(rs:List Rn)(ss:List Rn)(n:Int)(m:Int)(k:Nat)(os:List Rn)(l:Int)(i:Int):Al:=(C (sL pc rs)::(C (sL pc ss)::(Y 3 (C (F O n)::(C (F O m)::(X 2 k (pc os)::(Y 12 (C (F O l)::(C (F O i)::(Y 30 []))))))))))
theorem Auo(rs:List Rn)(ss:List Rn)(n:Int)(m:Int)(k:Nat)(os:List Rn)(l:Int)(i:Int)(c1:B (i<l)=true)(c2:B (i<n)=true)(c3:B (i<m)=true)(n1:0<=i/\i<(rs.length:Int))(n2:0<=i/\i<(k:Int))(n3:os.length=k)(n4:(os.set (A i) (rs.getD (A i) z0)).length=k)(n5:0<=i/\i<(ss.length:Int))(n6:RQ 111 [As ((os.set (A i) (rs.getD (A i) z0)).getD (A i) z0),As (ss.getD (A i) z0)] (Ah ((P ((os.set (A i) (rs.getD (A i) z0)).getD (A i) z0))+(P (ss.getD (A i) z0))))):Ar NU (IU rs ss n m k os l i) .norm (IU rs ss n m k ((os.set (A i) (rs.getD (A i) z0)).set (A i) (cn ((P ((os.set (A i) (rs.getD (A i) z0)).getD (A i) z0))+(P (ss.getD (A i) z0))))) l (I O (i+1))):=(G CZ 400 [.b true,.b true,.v (As (rs.getD (A i) z0)),.l (pc (os.set (A i) (rs.getD (A i) z0))),.b true,.v (As ((os.set (A i) (rs.getD (A i) z0)).getD (A i) z0)),.v (As (ss.getD (A i) z0)),.r (Ah ((P ((os.set (A i) (rs.getD (A i) z0)).getD (A i) z0))+(P (ss.getD (A i) z0)))),.l (pc ((os.set (A i) (rs.getD (A i) z0)).set (A i) (cn ((P ((os.set (A i) (rs.getD (A i) z0)).getD (A i) z0))+(P (ss.getD (A i) z0))))))] [0,1,5,6,7,20,21] (S c1 (S c2 (S n1 (S (x n1) (S n2 (S (F9 (r:=rs.getD (A i) z0) n3 n2) (S c3 (S n2 (S (Gb n4 n2) (S n5 (S (x n5) (S n6 (S n2 (S (F9 (r:=cn ((P ((os.set (A i) (rs.getD (A i) z0)).getD (A i) z0))+(P (ss.getD (A i) z0)))) n4 n2) a0)))))))))))))))
theorem Aup(rs:List Rn)(ss:List Rn)(n:Int)(m:Int)(k:Nat)(os:List Rn)(l:Int)(i:Int)(c1:B (i<l)=true)(c2:B (i<n)=true)(c3:B (i<m)=false)(n1:0<=i/\i<(rs.length:Int))(n2:0<=i/\i<(k:Int))(n3:os.length=k):Ar NU (IU rs ss n m k os l i) .norm (IU rs ss n m k (os.set (A i) (rs.getD (A i) z0)) l (I O (i+1))):=(G CZ 400 [.b true,.b true,.v (As (rs.getD (A i) z0)),.l (pc (os.set (A i) (rs.getD (A i) z0))),.b false] [0,1,5,6,7,20,21] (S c1 (S c2 (S n1 (S (x n1) (S n2 (S (F9 (r:=rs.getD (A i) z0) n3 n2) (S c3 a0))))))))
theorem Auq(rs:List Rn)(ss:List Rn)(n:Int)(m:Int)(k:Nat)(os:List Rn)(l:Int)(i:Int)(c1:B (i<l)=true)(c2:B (i<n)=false)(c3:B (i<m)=true)(n1:0<=i/\i<(k:Int))(n2:os.length=k)(n3:0<=i/\i<(ss.length:Int))(n4:RQ 111 [As (os.getD (A i) z0),As (ss.getD (A i) z0)] (Ah ((P (os.getD (A i) z0))+(P (ss.getD (A i) z0))))):Ar NU (IU rs ss n m k os l i) .norm (IU rs ss n m k (os.set (A i) (cn ((P (os.getD (A i) z0))+(P (ss.getD (A i) z0))))) l (I O (i+1))):=(G CZ 400 [.b true,.b false,.b true,.v (As (os.getD (A i) z0)),.v (As (ss.getD (A i) z0)),.r (Ah ((P (os.getD (A i) z0))+(P (ss.getD (A i) z0)))),.l (pc (os.set (A i) (cn ((P (os.getD (A i) z0))+(P (ss.getD (A i) z0))))))] [0,1,5,6,7,20,21] (S c1 (S c2 (S c3 (S n1 (S (Gb n2 n1) (S n3 (S (x n3) (S n4 (S n1 (S (F9 (r:=cn ((P (os.getD (A i) z0))+(P (ss.getD (A i) z0)))) n2 n1) a0)))))))))))
theorem Aur(rs:List Rn)(ss:List Rn)(n:Int)(m:Int)(k:Nat)(os:List Rn)(l:Int)(i:Int)(c1:B (i<l)=false):Ar NU (IU rs ss n m k os l i) (.exit 0) (IU rs ss n m k os l i):=(G CZ 400 [.b false] [0,1,5,6,7,20,21] (S c1 a0))
def Hc(rs ss:List Rn)(a b j:Nat):Rn:=if j<b then cn (P (if j<a then rs.getD j z0 else z0)+P (ss.getD j z0)) else (if j<a then rs.getD j z0 else z0)
theorem Acd{rs ss:List Rn}{a b:Nat}(ha:a<=rs.length)(hb:b<=ss.length)(hN:rs.length<=1048576)(hM:ss.length<=1048576)(hr:∀ r∈rs,AO 1048575 r)(hs:∀ r∈ss,AO 1048575 r) :
  Ar (.loop NU) (IU rs ss a b (max a b) (Av (max a b) z0) (max a b:Nat) 0) (.exit 0) (IU rs ss a b (max a b) ((Aq (max a b)).map (Hc rs ss a b)) (max a b:Nat) (max a b:Nat)):=by
 have h:=Cv.up (prog:=AY) (c:=NU) (ex := .exit 0) (fin:=IU rs ss a b (max a b) ((Aq (max a b)).map (Hc rs ss a b)) (max a b:Nat) (max a b:Nat))
  (fun i=>IU rs ss a b (max a b) (EN (Hc rs ss a b) i (max a b-i)) (max a b:Nat) (i:Nat)) (max a b) (by nofun) ?_ ?_ 0 (Ba _)
 ·simp only[MO,JV] at h;exact h
 ·intro i hi;obtain⟨r,hr'⟩:∃ r,max a b-i=r+1:=⟨max a b-i-1,by omega⟩;have e2:max a b-(i+1)=r:=by omega
  have ei:I O ((i:Int)+1)=((i+1:Nat):Int):=by rw[Bl (by omega) (by omega)];omega
  have hlen:(EN (Hc rs ss a b) i (r+1)).length=max a b:=by rw[KA];omega
  have hz:=kL (Hc rs ss a b) i r;have hset:=Od (Hc rs ss a b) i r;obtain⟨gr1,gr2⟩:=Bg hr i;obtain⟨gs1,gs2⟩:=Bg hs i;simp only[hr',e2];generalize EN (Hc rs ss a b) i (r+1)=os at *
  by_cases h1:i<a <;> by_cases h2:i<b
  ·have ho:(os.set i (rs.getD i z0)).getD i z0=rs.getD i z0:=by simp[Z,show i<os.length by omega]
   have k:=Auo rs ss a b (max a b) os (max a b:Nat) (i:Nat) (by simp;omega) (by simp;omega) (by simp;omega) (by omega) (by omega) hlen (by simpa using hlen) (by omega) (by
    simp only[R,ho];exact OS gr1 gs1 (by omega) (by omega))
   refine k.to rfl ?_;simp only[R,ei,ho,RD];rw[<- hset];simp only[Hc,if_pos h1,if_pos h2]
  ·have k:=Aup rs ss a b (max a b) os (max a b:Nat) (i:Nat) (by simp;omega) (by simp;omega) (by simp;omega) (by omega) (by omega) hlen;refine k.to rfl ?_;simp only[R,ei];rw[<- hset];simp only[Hc,if_pos h1,if_neg h2]
  ·have k:=Auq rs ss a b (max a b) os (max a b:Nat) (i:Nat) (by simp;omega) (by simp;omega) (by simp;omega) (by omega) hlen (by omega) (by
    simp only[R,hz];exact OS (Mh 0).1 gs1 (by decide) (by omega))
   refine k.to rfl ?_;simp only[R,ei,hz];rw[<- hset];simp only[Hc,if_neg h1,if_pos h2]
  ·omega
 ·have k:=Aur rs ss a b (max a b) ((Aq (max a b)).map (Hc rs ss a b)) (max a b:Nat) (max a b:Nat) (by simp);simp only[LV,MP];exact k
theorem Aus(rs ss os ts:List Rn)(drs dss:Int)(k M:Nat)(n1:RQ 53 [sL pc rs] (F O drs))(n2:RQ 53 [sL pc ss] (F O dss))(n3:0<=(if (I O (dss+1))>(I O (drs+1)) then (I O (dss+1)) else (I O (drs+1)))/\(if (I O (dss+1))>(I O (drs+1)) then (I O (dss+1)) else (I O (drs+1)))<=1048576)(hl4:Ar (.loop NU) ((C (sL pc rs)::(C (sL pc ss)::(Y 3 (C (F O (I O (drs+1)))::(C (F O (I O (dss+1)))::(X 2 (A (if (I O (dss+1))>(I O (drs+1)) then (I O (dss+1)) else (I O (drs+1)))) (Cu [D false,H 0 []] (A (if (I O (dss+1))>(I O (drs+1)) then (I O (dss+1)) else (I O (drs+1)))))::(Y 12 (C (F O (((A (if (I O (dss+1))>(I O (drs+1)) then (I O (dss+1)) else (I O (drs+1)))):Nat):Int))::(C (F O 0)::(Y 30 []))))))))))) (.exit 0) (IU rs ss (I O (drs+1)) (I O (dss+1)) M os M M))(n5:RQ 66 [H M (pc os)] (L 2 k (pc ts))):RQ 149 [sL pc rs,sL pc ss] (L 2 k (pc ts)):=A8 Vp (Y 4 (X 2 k (pc ts)::(Y 47 []))) (W (W (q (Cv.seq (G CZ 400 [.r (F O drs),.r (F O dss)] [0,1,5,6,7,20,21] (S n1 (S n2 (S n3 a0)))) (Cv.seq (Cv.block hl4) (G CZ 400 [.r (L 2 k (pc ts))] [4] (S n5 a0)))))))
theorem K1(xs:LI){j:Nat}(h:l xs xs.length<=j):xs.getD j 0=0:=by
 rcases Cp j xs.length with g | g
 ·exact MJ xs xs.length j h g
 ·exact Bw g
theorem pG(rs ss:List Rn)(j:Nat):P (Hc rs ss (l (Q rs) rs.length) (l (Q ss) ss.length) j)=(Q rs).getD j 0+(Q ss).getD j 0:=by
 have h1:=C7 rs j;have h2:=C7 ss j;unfold Hc;by_cases g1:j<l (Q rs) rs.length <;> by_cases g2:j<l (Q ss) ss.length
 ·rw[if_pos g1,if_pos g2,u,h1,h2]
 ·have:=K1 (Q ss) (j:=j) (by rw[s];omega);rw[if_pos g1,if_neg g2,h1,this,B5]
 ·have:=K1 (Q rs) (j:=j) (by rw[s];omega);rw[if_neg g1,if_pos g2,u,VN,h2,this]
 ·have k1:=K1 (Q ss) (j:=j) (by rw[s];omega);have k2:=K1 (Q rs) (j:=j) (by rw[s];omega);rw[if_neg g1,if_neg g2,VN,k1,k2];rfl
theorem gC{K:Nat}{rs ss:List Rn}(hr:∀ r∈rs,AO K r)(hs:∀ r∈ss,AO K r)(a b j:Nat):AO (K+1) (Hc rs ss a b j):=by
 have h1:=Bg hr j;have h2:=Bg hs j;unfold Hc;split
 ·split
  ·exact BG (h1.fits.add h2.fits)
  ·exact BG ((Mh K).fits.add h2.fits)
 ·split
  ·exact h1.mono (by omega)
  ·exact Mh _
theorem pH{K:Nat}{rs ss:List Rn}(hr:∀ r∈rs,AO K r)(hs:∀ r∈ss,AO K r)(hK:K<1048576)(hN:rs.length<=1048576)(hM:ss.length<=1048576) :
  RQ 149 [sL pc rs,sL pc ss] (L 2 (Du (Q rs) (Q ss)).length (pk (Du (Q rs) (Q ss)))):=by
 have hr':∀ r∈rs,AO 1048575 r:=fun r h=>(hr r h).mono (by omega);have hs':∀ r∈ss,AO 1048575 r:=fun r h=>(hs r h).mono (by omega);have d1:=Gm (fun r h=>(hr r h).mono (by omega)) hN;have d2:=Gm (fun r h=>(hs r h).mono (by omega)) hM;have l1:=GR (Q rs) rs.length;have l2:=GR (Q ss) ss.length;have hl:=Acd l1 l2 hN hM hr' hs';have hg:∀ r∈(Aq (max (l (Q rs) rs.length) (l (Q ss) ss.length))).map (Hc rs ss (l (Q rs) rs.length) (l (Q ss) ss.length)),AO 1048576 r:=MQ fun i _=>(gC hr hs _ _ i).mono (by omega);have ht:=IN hg (by simp;omega);have e:Aa (Q ((Aq (max (l (Q rs) rs.length) (l (Q ss) ss.length))).map (Hc rs ss (l (Q rs) rs.length) (l (Q ss) ss.length))))=Du (Q rs) (Q ss):=by
  rw[<- PZ];apply F2;intro j;rw[CX,Jt];split
  ·exact pG rs ss j
  ·rename_i h;rw[K1 (Q rs) (j:=j) (by rw[s];omega),K1 (Q ss) (j:=j) (by rw[s];omega)];rfl
 rw[e] at ht;have e1:I O ((((l (Q rs) rs.length:Nat):Int)-1)+1)=((l (Q rs) rs.length:Nat):Int):=by rw[Bl (by omega) (by omega)];omega
 have e2:I O ((((l (Q ss) ss.length:Nat):Int)-1)+1)=((l (Q ss) ss.length:Nat):Int):=by rw[Bl (by omega) (by omega)];omega
 have e3:(if ((l (Q ss) ss.length:Nat):Int)>((l (Q rs) rs.length:Nat):Int) then ((l (Q ss) ss.length:Nat):Int) else ((l (Q rs) rs.length:Nat):Int))=((max (l (Q rs) rs.length) (l (Q ss) ss.length):Nat):Int):=by split <;> omega
 (first|rw[N,B9] at ht|(unfold sL at ht;rw[N,B9] at ht));exact Aus rs ss _ _ _ _ _ (max (l (Q rs) rs.length) (l (Q ss) ss.length)) d1 d2 (by rw[e1,e2,e3];omega) (by rw[e1,e2,e3,R,Oc];exact hl) ht
def D2(fs:List Rn)(r:Rn)(e:Int)(t:Rn)(f:Int):AV := o [sL pc fs,D r.1,H r.2.length (lm r.2),F O e,D t.1,H t.2.length (lm t.2),F O f]
def Xz(fs:List Rn)(r:Rn)(e:Int)(t:Rn)(f:Int):Reg := g [sL pc fs,D r.1,H r.2.length (lm r.2),F O e,D t.1,H t.2.length (lm t.2),F O f]
theorem Ace(r:Rn)(e z:Int)(c1:B (e>=0)=true)(c2:B (e<=1024)=true)(n1:RQ 102 [As r] (F O z)):RQ 64 [j r e] (D (B (z<=1024))):=i (fn:=UK) h rfl 400 rfl [.b true,.b true,.r (F O z)] (S c1 (S c2 (S n1 a0)))
theorem Acf(r:Rn)(e:Int)(c1:B (e>=0)=true)(c2:B (e<=1024)=false):RQ 64 [j r e] (D false):=i (fn:=UK) h rfl 400 rfl [.b true,.b false] (S c1 (S c2 a0))
theorem Acg(r:Rn)(e:Int)(c1:B (e>=0)=false):RQ 64 [j r e] (D false):=i (fn:=UK) h rfl 400 rfl [.b false,.b false] (S c1 (S EI a0))
theorem pI(rs:List Rn)(b:Bool)(c1:(b)=false)(n1:RQ 147 [H 1 [sL pc rs]] (D b)):RQ 148 [sL pc rs] (Ax [sL pc rs,F O 0]):=i (fn:=Vo) h rfl 400 rfl [.r (D b),.b false] (S n1 (S c1 a0))
theorem pJ(rs ss:List Rn)(b:Bool)(c1:(b)=true)(n1:RQ 147 [H 2 [sL pc rs,sL pc ss]] (D b)):RQ 100 [sL pc rs,sL pc ss] (Ax [H 0 [],F O 2]):=i (fn:=RM) h rfl 400 rfl [.r (D b),.b true] (S n1 (S c1 a0))
theorem pK(rs ss us:List Rn)(b:Bool)(e:Int)(c1:(b)=false)(n1:RQ 147 [H 2 [sL pc rs,sL pc ss]] (D b))(n2:RQ 149 [sL pc rs,sL pc ss] (L 2 us.length (pc us)))(n3:RQ 148 [sL pc us] (Ax [sL pc us,F O e])):RQ 100 [sL pc rs,sL pc ss] (Ax [sL pc us,F O e]):=i (fn:=RM) h rfl 400 rfl [.r (D b),.b false,.r (L 2 us.length (pc us)),.r (Ax [sL pc us,F O e])] (S n1 (S c1 (S n2 (S n3 a0))))
theorem sQ(rs us:List Rn)(e:Int)(n1:RQ 100 [sL pc rs,H 0 []] (Ax [sL pc us,F O e])):RQ 52 [sL pc rs] (D (e==0)):=i (fn:=bK) h rfl 400 rfl [.r (Ax [sL pc us,F O e])] (S n1 a0)
theorem Ach(fs:List Rn)(r t:Rn)(e f:Int)(d:Int)(b:Bool)(c1:(b)=true)(c2:B (d<1)=true)(n1:RQ 52 [sL pc fs] (D b))(n2:RQ 53 [sL pc fs] (F O d)):RQ 18 [D2 fs r e t f] (D false):=i (fn:=NR) h rfl 400 rfl [.r (D b),.b false,.r (F O d),.b true,.b true,.b true] (S n1 (S (FQ c1) (S n2 (S c2 (S Ip (S Ip a0))))))
theorem Aci(fs:List Rn)(r t:Rn)(e f:Int)(ts:List Rn)(d c s:Int)(b v1 v2:Bool)(c1:(b)=true)(c2:B (d<1)=false)(c3:(v1)=true)(c4:(v2)=true)(c5:(c==0)=true)(n1:RQ 52 [sL pc fs] (D b))(n2:RQ 53 [sL pc fs] (F O d))(n3:RQ 64 [j r e] (D v1))(n4:RQ 64 [j t f] (D v2))(n5:RQ 55 [j r e,j t f] (F O c))(n6:RQ 66 [sL pc fs] (L 2 ts.length (pc ts)))(n7:RQ 65 [sL pc ts,j r e] (F O s)):RQ 18 [D2 fs r e t f] (D (s==0)):=i (fn:=NR) h rfl 400 rfl [.r (D b),.b false,.r (F O d),.b false,.r (D v1),.b false,.r (D v2),.b false,.r (F O c),.b true,.r (L 2 ts.length (pc ts)),.r (F O s)] (S n1 (S (FQ c1) (S n2 (S c2 (S n3 (S (FQ c3) (S n4 (S (FQ c4) (S n5 (S c5 (S n6 (S n7 a0))))))))))))
theorem Acj(fs:List Rn)(r t:Rn)(e f:Int)(d c:Int)(b v1 v2:Bool)(c1:(b)=true)(c2:B (d<1)=false)(c3:(v1)=true)(c4:(v2)=true)(c5:(c==0)=false)(c6:(c==1)=true)(n1:RQ 52 [sL pc fs] (D b))(n2:RQ 53 [sL pc fs] (F O d))(n3:RQ 64 [j r e] (D v1))(n4:RQ 64 [j t f] (D v2))(n5:RQ 55 [j r e,j t f] (F O c)):RQ 18 [D2 fs r e t f] (D false):=i (fn:=NR) h rfl 400 rfl [.r (D b),.b false,.r (F O d),.b false,.r (D v1),.b false,.r (D v2),.b false,.r (F O c),.b false,.b true] (S n1 (S (FQ c1) (S n2 (S c2 (S n3 (S (FQ c3) (S n4 (S (FQ c4) (S n5 (S c5 (S c6 a0)))))))))))
theorem Ack(fs:List Rn)(r t:Rn)(e f:Int)(ls:List (List Rn))(d c x y:Int)(b v1 v2:Bool)(c1:(b)=true)(c2:B (d<1)=false)(c3:(v1)=true)(c4:(v2)=true)(c5:(c==0)=false)(c6:(c==1)=false)(n1:RQ 52 [sL pc fs] (D b))(n2:RQ 53 [sL pc fs] (F O d))(n3:RQ 64 [j r e] (D v1))(n4:RQ 64 [j t f] (D v2))(n5:RQ 55 [j r e,j t f] (F O c))(n6:RQ 67 [sL pc fs] (L 1 ls.length (pp ls)))(n7:RQ 68 [sL pp ls,j r e] (F O x))(n8:RQ 68 [sL pp ls,j t f] (F O y)):RQ 18 [D2 fs r e t f] (D ((I O (x-y))==1)):=i (fn:=NR) h rfl 400 rfl [.r (D b),.b false,.r (F O d),.b false,.r (D v1),.b false,.r (D v2),.b false,.r (F O c),.b false,.b false,.r (L 1 ls.length (pp ls)),.r (F O x),.r (F O y)] (S n1 (S (FQ c1) (S n2 (S c2 (S n3 (S (FQ c3) (S n4 (S (FQ c4) (S n5 (S c5 (S c6 (S n6 (S n7 (S n8 a0))))))))))))))
theorem Acl(fs:List Rn)(r t:Rn)(e f:Int)(d:Int)(b v1 v2:Bool)(c1:(b)=true)(c2:B (d<1)=false)(c3:(v1)=true)(c4:(v2)=false)(n1:RQ 52 [sL pc fs] (D b))(n2:RQ 53 [sL pc fs] (F O d))(n3:RQ 64 [j r e] (D v1))(n4:RQ 64 [j t f] (D v2)):RQ 18 [D2 fs r e t f] (D false):=i (fn:=NR) h rfl 400 rfl [.r (D b),.b false,.r (F O d),.b false,.r (D v1),.b false,.r (D v2),.b true] (S n1 (S (FQ c1) (S n2 (S c2 (S n3 (S (FQ c3) (S n4 (S (W_ c4) a0))))))))
theorem Acm(fs:List Rn)(r t:Rn)(e f:Int)(d:Int)(b v1:Bool)(c1:(b)=true)(c2:B (d<1)=false)(c3:(v1)=false)(n1:RQ 52 [sL pc fs] (D b))(n2:RQ 53 [sL pc fs] (F O d))(n3:RQ 64 [j r e] (D v1)):RQ 18 [D2 fs r e t f] (D false):=i (fn:=NR) h rfl 400 rfl [.r (D b),.b false,.r (F O d),.b false,.r (D v1),.b true,.b true] (S n1 (S (FQ c1) (S n2 (S c2 (S n3 (S (W_ c3) (S Ip a0)))))))
theorem Acn(fs:List Rn)(r t:Rn)(e f:Int)(b:Bool)(c1:(b)=false)(n1:RQ 52 [sL pc fs] (D b)):RQ 18 [D2 fs r e t f] (D false):=i (fn:=NR) h rfl 400 rfl [.r (D b),.b true,.b true,.b true,.b true] (S n1 (S (W_ c1) (S Ip (S Ip (S Ip a0)))))
theorem gD(r:Rn)(e n:Int)(n1:RQ 113 [As r] (Ah n)):RQ 106 [j r e] (j (cn n) e):=i (fn:=UP) h rfl 400 rfl [.r (Ah n)] (S n1 a0)
theorem A1i(fs:List Rn)(r t:Rn)(e f:Int)(ts:List Rn)(n m u v:Int)(n1:RQ 66 [sL pc fs] (L 2 ts.length (pc ts)))(n2:RQ 106 [j r e] (j (cn n) m))(n3:RQ 106 [j t f] (j (cn u) v)):RQ 57 [D2 fs r e t f] (D2 ts (cn n) m (cn u) v):=i (fn:=bP) h rfl 400 rfl [.r (L 2 ts.length (pc ts)),.r (j (cn n) m),.r (j (cn u) v)] (S n1 (S n2 (S n3 a0)))
theorem Aco(r:Rn)(e z:Int)(c1:B (e>=0)=true)(c2:B (e<=1024)=true)(n1:RQ 51 [As r] (F O z)):RQ 61 [j r e] (D (B (z<=1024))):=i (fn:=UJ) h rfl 400 rfl [.b true,.b true,.r (F O z)] (S c1 (S c2 (S n1 a0)))
theorem Acp(r:Rn)(e:Int)(c1:B (e>=0)=true)(c2:B (e<=1024)=false):RQ 61 [j r e] (D false):=i (fn:=UJ) h rfl 400 rfl [.b true,.b false] (S c1 (S c2 a0))
theorem Acq(r:Rn)(e:Int)(c1:B (e>=0)=false):RQ 61 [j r e] (D false):=i (fn:=UJ) h rfl 400 rfl [.b false,.b false] (S c1 (S EI a0))
theorem A1j(rs:List Rn)(r:Rn)(e v s:Int)(n1:RQ 80 [sL pc rs,As r,F O e] (Ah v))(n2:RQ 79 [Ah v] (F O s)):RQ 62 [sL pc rs,j r e] (D (s==0)):=i (fn:=bQ) h rfl 400 rfl [.r (Ah v),.r (F O s)] (S n1 (S n2 a0))
theorem sR(rs:List Rn)(ls:List (List Rn))(r t:Rn)(e f x y:Int)(n1:RQ 108 [sL pc rs] (L 1 ls.length (pp ls)))(n2:RQ 110 [sL pp ls,j r e] (F O x))(n3:RQ 110 [sL pp ls,j t f] (F O y)):RQ 63 [sL pc rs,j r e,j t f] (F O (I O (x-y))):=i (fn:=bT) h rfl 400 rfl [.r (L 1 ls.length (pp ls)),.r (F O x),.r (F O y)] (S n1 (S n2 (S n3 a0)))
theorem Acr(fs:List Rn)(r t:Rn)(e f:Int)(b:Bool)(c1:(b)=true)(n1:RQ 58 [sL pc fs] (D b)):RQ 17 [D2 fs r e t f] (D false):=i (fn:=NQ) h rfl 400 rfl [.r (D b),.b true,.b true,.b true,.b true] (S n1 (S c1 (S Ip (S Ip (S Ip a0)))))
theorem Acs(fs:List Rn)(r t:Rn)(e f:Int)(d:Int)(b:Bool)(c1:(b)=false)(c2:B (d<1)=true)(n1:RQ 58 [sL pc fs] (D b))(n2:RQ 21 [sL pc fs] (F O d)):RQ 17 [D2 fs r e t f] (D false):=i (fn:=NQ) h rfl 400 rfl [.r (D b),.b false,.r (F O d),.b true,.b true,.b true] (S n1 (S c1 (S n2 (S c2 (S Ip (S Ip a0))))))
theorem Acu(fs:List Rn)(r t:Rn)(e f:Int)(d c:Int)(b v1 v2 z:Bool)(c1:(b)=false)(c2:B (d<1)=false)(c3:(v1)=true)(c4:(v2)=true)(c5:(c==0)=true)(n1:RQ 58 [sL pc fs] (D b))(n2:RQ 21 [sL pc fs] (F O d))(n3:RQ 61 [j r e] (D v1))(n4:RQ 61 [j t f] (D v2))(n5:RQ 33 [j r e,j t f] (F O c))(n6:RQ 62 [sL pc fs,j r e] (D z)):RQ 17 [D2 fs r e t f] (D z):=i (fn:=NQ) h rfl 400 rfl [.r (D b),.b false,.r (F O d),.b false,.r (D v1),.b false,.r (D v2),.b false,.r (F O c),.b true,.r (D z)] (S n1 (S c1 (S n2 (S c2 (S n3 (S (FQ c3) (S n4 (S (FQ c4) (S n5 (S c5 (S n6 a0)))))))))))
theorem Acv(fs:List Rn)(r t:Rn)(e f:Int)(d c x:Int)(b v1 v2:Bool)(c1:(b)=false)(c2:B (d<1)=false)(c3:(v1)=true)(c4:(v2)=true)(c5:(c==0)=false)(c6:(c==(-1))=true)(n1:RQ 58 [sL pc fs] (D b))(n2:RQ 21 [sL pc fs] (F O d))(n3:RQ 61 [j r e] (D v1))(n4:RQ 61 [j t f] (D v2))(n5:RQ 33 [j r e,j t f] (F O c))(n6:RQ 63 [sL pc fs,j r e,j t f] (F O x)):RQ 17 [D2 fs r e t f] (D (x==1)):=i (fn:=NQ) h rfl 400 rfl [.r (D b),.b false,.r (F O d),.b false,.r (D v1),.b false,.r (D v2),.b false,.r (F O c),.b false,.b true,.r (F O x)] (S n1 (S c1 (S n2 (S c2 (S n3 (S (FQ c3) (S n4 (S (FQ c4) (S n5 (S c5 (S c6 (S n6 a0))))))))))))
theorem Acw(fs:List Rn)(r t:Rn)(e f:Int)(d c:Int)(b v1 v2:Bool)(c1:(b)=false)(c2:B (d<1)=false)(c3:(v1)=true)(c4:(v2)=true)(c5:(c==0)=false)(c6:(c==(-1))=false)(n1:RQ 58 [sL pc fs] (D b))(n2:RQ 21 [sL pc fs] (F O d))(n3:RQ 61 [j r e] (D v1))(n4:RQ 61 [j t f] (D v2))(n5:RQ 33 [j r e,j t f] (F O c)):RQ 17 [D2 fs r e t f] (D false):=i (fn:=NQ) h rfl 400 rfl [.r (D b),.b false,.r (F O d),.b false,.r (D v1),.b false,.r (D v2),.b false,.r (F O c),.b false,.b false] (S n1 (S c1 (S n2 (S c2 (S n3 (S (FQ c3) (S n4 (S (FQ c4) (S n5 (S c5 (S c6 a0)))))))))))
theorem Acx(fs:List Rn)(r t:Rn)(e f:Int)(d:Int)(b v1 v2:Bool)(c1:(b)=false)(c2:B (d<1)=false)(c3:(v1)=true)(c4:(v2)=false)(n1:RQ 58 [sL pc fs] (D b))(n2:RQ 21 [sL pc fs] (F O d))(n3:RQ 61 [j r e] (D v1))(n4:RQ 61 [j t f] (D v2)):RQ 17 [D2 fs r e t f] (D false):=i (fn:=NQ) h rfl 400 rfl [.r (D b),.b false,.r (F O d),.b false,.r (D v1),.b false,.r (D v2),.b true] (S n1 (S c1 (S n2 (S c2 (S n3 (S (FQ c3) (S n4 (S (W_ c4) a0))))))))
theorem Acy(fs:List Rn)(r t:Rn)(e f:Int)(d:Int)(b v1:Bool)(c1:(b)=false)(c2:B (d<1)=false)(c3:(v1)=false)(n1:RQ 58 [sL pc fs] (D b))(n2:RQ 21 [sL pc fs] (F O d))(n3:RQ 61 [j r e] (D v1)):RQ 17 [D2 fs r e t f] (D false):=i (fn:=NQ) h rfl 400 rfl [.r (D b),.b false,.r (F O d),.b false,.r (D v1),.b true,.b true] (S n1 (S c1 (S n2 (S c2 (S n3 (S (W_ c3) (S Ip a0)))))))
theorem A1k(fs:List Rn)(r t:Rn)(e f:Int)(gs:List Rn)(n1:RQ 73 [sL pc fs] (sL pc gs)):RQ 20 [D2 fs r e t f] (D2 gs r e t f):=i (fn:=bF) h rfl 400 rfl [.r (sL pc gs)] (S n1 a0)
theorem Acz(fs:List Rn)(r t:Rn)(e f:Int)(q:Rn)(g c_qr c_qt c_rt:Int)(c1:(c_rt==0)=false)(c2:B (c_qr<=0)=true)(n1:RQ 33 [j q g,j r e] (F O c_qr))(n2:RQ 33 [j q g,j t f] (F O c_qt))(n3:RQ 33 [j r e,j t f] (F O c_rt)):RQ 27 [D2 fs r e t f,j q g] (F O 1):=i (fn:=Pt) h rfl 400 rfl [.r (F O c_qr),.r (F O c_qt),.r (F O c_rt),.b false,.b true] (S n1 (S n2 (S n3 (S c1 (S c2 a0)))))
theorem Ada(fs:List Rn)(r t:Rn)(e f:Int)(q:Rn)(g c_qr c_qt c_rt:Int)(c1:(c_rt==0)=false)(c2:B (c_qr<=0)=false)(c3:B (c_qt>0)=true)(n1:RQ 33 [j q g,j r e] (F O c_qr))(n2:RQ 33 [j q g,j t f] (F O c_qt))(n3:RQ 33 [j r e,j t f] (F O c_rt)):RQ 27 [D2 fs r e t f,j q g] (F O (-1)):=i (fn:=Pt) h rfl 400 rfl [.r (F O c_qr),.r (F O c_qt),.r (F O c_rt),.b false,.b false,.b true] (S n1 (S n2 (S n3 (S c1 (S c2 (S c3 a0))))))
theorem Adb(fs:List Rn)(r t:Rn)(e f:Int)(q:Rn)(g c_qr c_qt c_rt v w s_t s_q:Int)(c1:(c_rt==0)=false)(c2:B (c_qr<=0)=false)(c3:B (c_qt>0)=false)(c4:(s_q==0)=true)(n1:RQ 33 [j q g,j r e] (F O c_qr))(n2:RQ 33 [j q g,j t f] (F O c_qt))(n3:RQ 33 [j r e,j t f] (F O c_rt))(n4:RQ 80 [sL pc fs,As q,F O g] (Ah v))(n5:RQ 79 [Ah v] (F O s_q))(n6:RQ 80 [sL pc fs,As t,F O f] (Ah w))(n7:RQ 79 [Ah w] (F O s_t)):RQ 27 [D2 fs r e t f,j q g] (F O 0):=i (fn:=Pt) h rfl 400 rfl [.r (F O c_qr),.r (F O c_qt),.r (F O c_rt),.b false,.b false,.b false,.r (Ah v),.r (F O s_q),.r (Ah w),.r (F O s_t),.b true] (S n1 (S n2 (S n3 (S c1 (S c2 (S c3 (S n4 (S n5 (S n6 (S n7 (S c4 a0)))))))))))
theorem Adc(fs:List Rn)(r t:Rn)(e f:Int)(q:Rn)(g c_qr c_qt c_rt v w s_t s_q:Int)(c1:(c_rt==0)=false)(c2:B (c_qr<=0)=false)(c3:B (c_qt>0)=false)(c4:(s_q==0)=false)(c5:(s_t==0)=true)(n1:RQ 33 [j q g,j r e] (F O c_qr))(n2:RQ 33 [j q g,j t f] (F O c_qt))(n3:RQ 33 [j r e,j t f] (F O c_rt))(n4:RQ 80 [sL pc fs,As q,F O g] (Ah v))(n5:RQ 79 [Ah v] (F O s_q))(n6:RQ 80 [sL pc fs,As t,F O f] (Ah w))(n7:RQ 79 [Ah w] (F O s_t)):RQ 27 [D2 fs r e t f,j q g] (F O 1):=i (fn:=Pt) h rfl 400 rfl [.r (F O c_qr),.r (F O c_qt),.r (F O c_rt),.b false,.b false,.b false,.r (Ah v),.r (F O s_q),.r (Ah w),.r (F O s_t),.b false,.b true] (S n1 (S n2 (S n3 (S c1 (S c2 (S c3 (S n4 (S n5 (S n6 (S n7 (S c4 (S c5 a0))))))))))))
theorem Ade(fs:List Rn)(r t:Rn)(e f:Int)(q:Rn)(g c_qr c_qt c_rt v w s_t s_q:Int)(c1:(c_rt==0)=false)(c2:B (c_qr<=0)=false)(c3:B (c_qt>0)=false)(c4:(s_q==0)=false)(c5:(s_t==0)=false)(c6:(s_q==s_t)=true)(n1:RQ 33 [j q g,j r e] (F O c_qr))(n2:RQ 33 [j q g,j t f] (F O c_qt))(n3:RQ 33 [j r e,j t f] (F O c_rt))(n4:RQ 80 [sL pc fs,As q,F O g] (Ah v))(n5:RQ 79 [Ah v] (F O s_q))(n6:RQ 80 [sL pc fs,As t,F O f] (Ah w))(n7:RQ 79 [Ah w] (F O s_t)):RQ 27 [D2 fs r e t f,j q g] (F O (-1)):=i (fn:=Pt) h rfl 400 rfl [.r (F O c_qr),.r (F O c_qt),.r (F O c_rt),.b false,.b false,.b false,.r (Ah v),.r (F O s_q),.r (Ah w),.r (F O s_t),.b false,.b false,.b true] (S n1 (S n2 (S n3 (S c1 (S c2 (S c3 (S n4 (S n5 (S n6 (S n7 (S c4 (S c5 (S c6 a0)))))))))))))
theorem Adf(fs:List Rn)(r t:Rn)(e f:Int)(q:Rn)(g c_qr c_qt c_rt v w s_t s_q:Int)(c1:(c_rt==0)=false)(c2:B (c_qr<=0)=false)(c3:B (c_qt>0)=false)(c4:(s_q==0)=false)(c5:(s_t==0)=false)(c6:(s_q==s_t)=false)(n1:RQ 33 [j q g,j r e] (F O c_qr))(n2:RQ 33 [j q g,j t f] (F O c_qt))(n3:RQ 33 [j r e,j t f] (F O c_rt))(n4:RQ 80 [sL pc fs,As q,F O g] (Ah v))(n5:RQ 79 [Ah v] (F O s_q))(n6:RQ 80 [sL pc fs,As t,F O f] (Ah w))(n7:RQ 79 [Ah w] (F O s_t)):RQ 27 [D2 fs r e t f,j q g] (F O 1):=i (fn:=Pt) h rfl 400 rfl [.r (F O c_qr),.r (F O c_qt),.r (F O c_rt),.b false,.b false,.b false,.r (Ah v),.r (F O s_q),.r (Ah w),.r (F O s_t),.b false,.b false,.b false] (S n1 (S n2 (S n3 (S c1 (S c2 (S c3 (S n4 (S n5 (S n6 (S n7 (S c4 (S c5 (S c6 a0)))))))))))))
theorem Adg(fs:List Rn)(r t:Rn)(e f:Int)(c:Int)(c1:(c==0)=true)(n1:RQ 33 [j r e,j t f] (F O c)):RQ 72 [D2 fs r e t f] (D2 fs r e t f):=i (fn:=UL) h rfl 400 rfl [.r (F O c),.b true] (S n1 (S c1 a0))
theorem Adh(fs:List Rn)(r t:Rn)(e f:Int)(n m s c:Int)(c1:(c==0)=false)(c2:B (s<=0)=true)(n1:RQ 33 [j r e,j t f] (F O c))(n2:RQ 121 [j r e,j t f] (j (cn n) m))(n3:RQ 27 [D2 fs r e t f,j (cn n) m] (F O s)):RQ 72 [D2 fs r e t f] (D2 fs r e (cn n) m):=i (fn:=UL) h rfl 400 rfl [.r (F O c),.b false,.r (j (cn n) m),.r (F O s),.b true] (S n1 (S c1 (S n2 (S n3 (S c2 a0)))))
theorem Adi(fs:List Rn)(r t:Rn)(e f:Int)(n m s c:Int)(c1:(c==0)=false)(c2:B (s<=0)=false)(n1:RQ 33 [j r e,j t f] (F O c))(n2:RQ 121 [j r e,j t f] (j (cn n) m))(n3:RQ 27 [D2 fs r e t f,j (cn n) m] (F O s)):RQ 72 [D2 fs r e t f] (D2 fs (cn n) m t f):=i (fn:=UL) h rfl 400 rfl [.r (F O c),.b false,.r (j (cn n) m),.r (F O s),.b false] (S n1 (S c1 (S n2 (S n3 (S c2 a0)))))
def IB(o:Bool)(rs:List Rn)(i:Int):Al:=(C (sL pc rs)::(Y 1 (C (D o)::(C (F O i)::(Y 24 [])))))
theorem A1l(o:Bool)(rs:List Rn)(i:Int)(z:Int)(c1:B (i<(rs.length:Int))=true)(c2:B (z>100)=true)(n1:0<=i/\i<(rs.length:Int))(n2:RQ 51 [As (rs.getD (A i) z0)] (F O z)):Ar NP (IB o rs i) .ret (IB false rs i):=(G h 400 [.b true,.v (As (rs.getD (A i) z0)),.r (F O z),.b true,.b true] [0,2,3] (S c1 (S n1 (S (x n1) (S n2 (S c2 (S Ip a0)))))))
theorem A1m(o:Bool)(rs:List Rn)(i:Int)(z:Int)(c1:B (i<(rs.length:Int))=true)(c2:B (z>100)=false)(c3:(B ((((rs.getD (A i) z0).2.length:Nat):Int)>5))=true)(n1:0<=i/\i<(rs.length:Int))(n2:RQ 51 [As (rs.getD (A i) z0)] (F O z)):Ar NP (IB o rs i) .ret (IB false rs i):=(G h 400 [.b true,.v (As (rs.getD (A i) z0)),.r (F O z),.b false,.v (H ((rs.getD (A i) z0).2.length) (lm (rs.getD (A i) z0).2)),.b true] [0,2,3] (S c1 (S n1 (S (x n1) (S n2 (S c2 (S n1 (S (Yh n1) (S c3 a0)))))))))
theorem A1n(o:Bool)(rs:List Rn)(i:Int)(z:Int)(c1:B (i<(rs.length:Int))=true)(c2:B (z>100)=false)(c3:(B ((((rs.getD (A i) z0).2.length:Nat):Int)>5))=false)(n1:0<=i/\i<(rs.length:Int))(n2:RQ 51 [As (rs.getD (A i) z0)] (F O z)):Ar NP (IB o rs i) .norm (IB o rs (I O (i+1))):=(G h 400 [.b true,.v (As (rs.getD (A i) z0)),.r (F O z),.b false,.v (H ((rs.getD (A i) z0).2.length) (lm (rs.getD (A i) z0).2)),.b false] [0,2,3] (S c1 (S n1 (S (x n1) (S n2 (S c2 (S n1 (S (Yh n1) (S c3 a0)))))))))
theorem A1o(o:Bool)(rs:List Rn)(i:Int)(c1:B (i<(rs.length:Int))=false):Ar NP (IB o rs i) (.exit 0) (IB o rs i):=(G h 400 [.b false] [0,2,3] (S c1 a0))
theorem gF(rs:List Rn)(c1:B ((rs.length:Int)>9)=true):RQ 13 [sL pc rs] (D false):=A8 UB (Y 2 (C (D false)::(Y 25 []))) (W (q (AJ (G h 400 [.b true] [2] (S c1 a0)) (by nofun))))
theorem gG(rs:List Rn)(i:Int)(c1:B ((rs.length:Int)>9)=false)(hl1:Ar (.loop NP) (IB false rs 0) .ret (IB false rs i)):RQ 13 [sL pc rs] (D false):=A8 UB (C (sL pc rs)::(Y 1 (C (D false)::(C (F O i)::(Y 24 []))))) (W (q (Cv.seq (G h 400 [.b false] [0,2,3] (S c1 a0)) (AJ (CJ hl1) (by nofun)))))
theorem gH(rs:List Rn)(i:Int)(c1:B ((rs.length:Int)>9)=false)(hl1:Ar (.loop NP) (IB false rs 0) (.exit 0) (IB false rs i)):RQ 13 [sL pc rs] (D true):=A8 UB (Y 2 (C (D true)::(Y 25 []))) (W (q (Cv.seq (G h 400 [.b false] [0,2,3] (S c1 a0)) (Cv.seq (Cv.block hl1) (G h 400 [] [2] a0)))))
def TXA:Cn:=TZB
theorem pL:Ca AY TXA:=oJ
def JU(r:Rn)(e:Int):Bool:=decide (e>=0)&&decide (e<=1024)&&decide (CR (P r).natAbs<=1024)
theorem Rx{r:Rn}{e:Int}(h:JU r e=true):∃ a:Nat,e=(a:Nat)/\a<=1024/\CR (P r).natAbs<=1024:=by
 unfold JU at h;simp only[Ad,decide_eq_true_eq] at h;exact⟨e.toNat,by omega,by omega,h.2⟩
theorem Ry{r:Rn}{e:Int}(hr:AO 100 r):RQ 64 [j r e] (D (JU r e)):=by
 have hb:=MV (neg:=r.1) hr.1 (by have:=hr.2;omega);unfold JU;by_cases c1:e>=0
 ·by_cases c2:e<=1024
  ·have k:=Ace r e _ (decide_eq_true c1) (decide_eq_true c2) hb;have ez:decide (((CR (P r).natAbs:Nat):Int)<=1024)=decide (CR (P r).natAbs<=1024):=decide_eq_decide.2 (by omega);rw[decide_eq_true c1,decide_eq_true c2];show FK _ _ _ (D (B (CR (P r).natAbs<=1024)));rw[<- ez];exact k
  ·rw[decide_eq_true c1,decide_eq_false c2];exact Acf r e (decide_eq_true c1) (decide_eq_false c2)
 ·rw[decide_eq_false c1];exact Acg r e (decide_eq_false c1)
theorem Ly{r:Rn}{e:Int}(hr:AO 100 r):RQ 61 [j r e] (D (JU r e)):=by
 have hb:=HR (neg:=r.1) hr.1 (by have:=hr.2;omega);unfold JU;by_cases c1:e>=0
 ·by_cases c2:e<=1024
  ·have k:=Aco r e _ (decide_eq_true c1) (decide_eq_true c2) hb;have ez:decide (((CR (P r).natAbs:Nat):Int)<=1024)=decide (CR (P r).natAbs<=1024):=decide_eq_decide.2 (by omega);rw[decide_eq_true c1,decide_eq_true c2];show FK _ _ _ (D (B (CR (P r).natAbs<=1024)));rw[<- ez];exact k
  ·rw[decide_eq_true c1,decide_eq_false c2];exact Acp r e (decide_eq_true c1) (decide_eq_false c2)
 ·rw[decide_eq_false c1];exact Acq r e (decide_eq_false c1)
theorem ZN(p:LI):CP (Aa p)=CP p:=by
 unfold CP;rw[Gv]
theorem pM:CP []=false:=by decide
theorem Lz{rs:List Rn}{K:Nat}(hg:∀ r∈rs,AO K r)(hK:K<=1000)(hN:rs.length<=1000):RQ 52 [sL pc rs] (D (!CP (Q rs))):=by
 have h1:=T8 (ps:=[rs,[]]) (fun p hp=>by
  rcases D4.1 hp with rfl | hp
  ·exact⟨fun r h=>(hg r h).mono (by omega),by omega⟩
  ·rcases D4.1 hp with rfl | hp
   ·exact⟨fun r h=>(by cases h),by decide⟩
   ·cases hp) (by simp)
 have e1:([rs,[]].any fun p=>CP (Q p))=CP (Q rs):=by
  have:Q ([]:List Rn)=[]:=rfl;simp[this,pM]
 rw[e1] at h1;cases c:CP (Q rs) with
 | true =>
  rw[c] at h1;exact sQ rs [] 2 (pJ rs [] true rfl h1)
 | false =>
  rw[c] at h1;have h2:=pH (rs:=rs) (ss:=[]) hg (fun r h=>by cases h) (by omega) (by omega) (by decide);have ep:Du (Q rs) (Q ([]:List Rn))=Aa (Q rs):=by
   rw[<- PZ];apply F2;intro i;rw[CX];have:(Q ([]:List Rn)).getD i 0=0:=by simp[Q]
   omega
  rw[ep] at h2;have hl:=Bq (Q rs);rw[s] at hl;have hgt:∀ r∈(Aa (Q rs)).map cn,AO K r:=Kp (Gc (C1 hg));have h3:=T8 (ps:=[(Aa (Q rs)).map cn]) (fun p hp=>by
   rcases D4.1 hp with rfl | hp
   ·exact⟨fun r h=>(hgt r h).mono (by omega),by rw[N];omega⟩
   ·cases hp) (by simp)
  have e3:([(Aa (Q rs)).map cn].any fun p=>CP (Q p))=false:=by
   rw[List.any_cons,List.any_nil,Bool.or_false,v,ZN];exact c
  rw[e3] at h3;have h4:=pI _ false rfl h3;exact sQ rs _ _ (pK rs [] _ false 0 rfl h1 (E7 h2) h4)
theorem L0{l:List (LI)}(hl:l.length<=100)(x:Int)(e:Nat)(y:Int)(f:Nat):I O ((BY l x e l.length).1-(BY l y f l.length).1)=(BY l x e l.length).1-(BY l y f l.length).1:=by
 have b1:=Kz l x e l.length;have b2:=Kz l y f l.length;exact Bl (by omega) (by omega)
def Nv(p:LI)(x:Int)(a:Nat)(y:Int)(b:Nat):Int:=(BY (B0 p) x a (B0 p).length).1-(BY (B0 p) y b (B0 p).length).1
def OZ(rs:List Rn)(r:Rn)(e:Int)(t:Rn)(f:Int):Bool :=
 !CP (Q rs)&&decide (2<=(Aa (Q rs)).length)&&JU r e&&JU t f &&
  (if Co (P r) e.toNat (P t) f.toNat=0 then decide (BJ (hv (Aa (Q rs)) (P r) (2^e.toNat))=0)
  else decide (Co (P r) e.toNat (P t) f.toNat = -1/\Nv (Q rs) (P r) e.toNat (P t) f.toNat=1))
section
variable {rs:List Rn} {r t:Rn} (hg:∀ r∈rs,AO 5 r) (hn:rs.length<=9) (hr:AO 100 r) (ht:AO 100 t) (e f:Int)
include hg hn hr ht
theorem W4:RQ 18 [o [sL pc rs,D r.1,H r.2.length (lm r.2),F O e,D t.1,H t.2.length (lm t.2),F O f]] (D (OZ rs r e t f)):=by
 have h1:=Lz hg (by omega) (by omega);have h2:=Gm (fun r h=>(hg r h).mono (by omega)) (show rs.length<=1048576 by omega);have h3:=Ry (e:=e) hr;have h4:=Ry (e:=f) ht;have htl:=Fa (Q rs);rw[s] at htl;unfold OZ;cases c1:CP (Q rs) with
 | true =>
  rw[c1] at h1;exact Acn rs r t e f false rfl h1
 | false =>
  rw[c1] at h1;by_cases c2:2<=(Aa (Q rs)).length
  ·have d2:decide (((l (Q rs) rs.length:Nat):Int)-1<1)=false:=by rw[decide_eq_false_iff_not];omega
   cases c3:JU r e with
   | false =>
    rw[c3] at h3;rw[decide_eq_true c2];exact Acm rs r t e f _ true false rfl d2 rfl h1 h2 h3
   | true =>
    rw[c3] at h3;cases c4:JU t f with
    | false =>
     rw[c4] at h4;rw[decide_eq_true c2];exact Acl rs r t e f _ true true false rfl d2 rfl rfl h1 h2 h3 h4
    | true =>
     rw[c4] at h4;obtain⟨a,rfl,ha,_⟩:=Rx c3;obtain⟨b,rfl,hb,_⟩:=Rx c4;rw[R,R,decide_eq_true c2];have h5:=S9 (hr.mono (show 100<=200 by omega)) (ht.mono (show 100<=200 by omega)) (a:=a) (b:=b) (by omega) (by omega);by_cases c5:Co (P r) a (P t) b=0
     ·rw[c5] at h5;rw[if_pos c5];have h6:=IN (fun r h=>(hg r h).mono (by omega)) (show rs.length<=1048576 by omega);have hk:∀ r∈(Aa (Q rs)).map cn,AO 5 r:=Kp (Gc (C1 hg));have hl:=Bq (Q rs);rw[s] at hl;have h7:=Re (rs:=(Aa (Q rs)).map cn) hk hr a (by
       rw[N];have:((Aa (Q rs)).length+1)*(100+(a / 32+1)+1)<=10*230:=Bj (by omega) (by omega);omega) (by omega)
      rw[v] at h7;have k:=Aci rs r t (a:Nat) (b:Nat) _ _ 0 _ true true true rfl d2 rfl rfl rfl h1 h2 h3 h4 h5 (E7 h6) h7;refine k
     ·rw[if_neg c5];have hbd:=Rw (P r*2^b) (P t*2^a);by_cases c6:Co (P r) a (P t) b=1
      ·rw[c6] at h5;rw[decide_eq_false (show ¬ (Co (P r) a (P t) b = -1/\_) by rw[c6];exact fun g=>absurd g.1 (by decide))];exact Acj rs r t (a:Nat) (b:Nat) _ 1 true true true rfl d2 rfl rfl rfl rfl h1 h2 h3 h4 h5
      ·have c7:Co (P r) a (P t) b = -1:=by
        have h0:Co (P r) a (P t) b=CI (P r*2^b) (P t*2^a):=rfl;omega
       rw[c7] at h5;have hch:=O0 hg hn;have hnice:=Hp hg hn;have hlen:=G_ hg hn;have x1:=G1 hnice hr a (by omega) (by omega);have x2:=G1 hnice ht b (by omega) (by omega);have k:=Ack rs r t (a:Nat) (b:Nat) _ _ (-1) _ _ true true true rfl d2 rfl rfl rfl rfl h1 h2 h3 h4 h5 hch x1 x2;rw[L0 (by omega)] at k;have ee:decide (Co (P r) a (P t) b = -1/\Nv (Q rs) (P r) a (P t) b=1)=(Nv (Q rs) (P r) a (P t) b==1):=by
        rw[c7];cases hq:(Nv (Q rs) (P r) a (P t) b==1) with
        | true=>rw[decide_eq_true_eq];exact⟨rfl,by simpa using hq⟩
        | false=>rw[decide_eq_false_iff_not];exact fun g=>by rw[beq_eq_false_iff_ne] at hq;exact hq g.2
       rw[ee];exact k
  ·have d2:decide (((l (Q rs) rs.length:Nat):Int)-1<1)=true:=by rw[decide_eq_true_eq];omega
   rw[decide_eq_false c2];exact Ach rs r t e f _ true rfl d2 h1 h2
end
def Rz(p:LI):Prop:=Kb 500000 p/\p.length<=9
theorem Adj{p:LI}(hl:p.length<=9){a:Nat}(ha:a<=4096):500000+2+(p.length+1)*(100+(a / 32+1)+1)<=1048576:=by
 have:(p.length+1)*(100+(a / 32+1)+1)<=10*230:=Bj (by omega) (by omega);omega
def H2(p:LI)(x:Int)(a:Nat):Int:=BJ (hv p x (2^a))
theorem O5{rs:List Rn}(hg:∀ r∈rs,AO 500000 r)(hl:rs.length<=9){r:Rn}(hr:AO 100 r){a:Nat}(ha:a<=4096) :
  RQ 80 [sL pc rs,o [D r.1,H r.2.length (lm r.2)],F O (a:Nat)] (Ah (hv (Aa (Q rs)) (P r) (2^a))) /\
  RQ 79 [Ah (hv (Aa (Q rs)) (P r) (2^a))] (F O (H2 (Aa (Q rs)) (P r) a)):=by
 have hz:=Adj (p:=Q rs) (by rw[s];exact hl) ha;rw[s] at hz;have h:=Tv hg hr a hz (by omega);have hf:=Wc (K:=500000) hr.fits a (ts:=Aa (Q rs)) (Gc (C1 hg));have ht:=Bq (Q rs);rw[s] at ht;have hlen:(Aa (Q rs)).length*(100+(a / 32+1)+1)<=9*230:=Bj (by omega) (by omega);exact⟨h,Yd (by have:=hf.len;omega)⟩
section
variable {rs:List Rn} {r t:Rn} (hg:∀ r∈rs,AO 5 r) (hn:rs.length<=9) (hr:AO 100 r) (ht:AO 100 t) (e f:Int)
include hg hn hr ht
theorem ZO:RQ 17 [o [sL pc rs,D r.1,H r.2.length (lm r.2),F O e,D t.1,H t.2.length (lm t.2),F O f]] (D (OZ rs r e t f)):=by
 have h1:=Nh (fun r h=>(hg r h).mono (by omega)) (show rs.length<=1048576 by omega);have h2:=LO (fun r h=>(hg r h).mono (by omega)) (show rs.length<=1048576 by omega);have h3:=Ly (e:=e) hr;have h4:=Ly (e:=f) ht;unfold OZ;cases c1:CP (Q rs) with
 | true =>
  rw[c1] at h1;exact Acr rs r t e f true rfl h1
 | false =>
  rw[c1] at h1;by_cases c2:2<=(Aa (Q rs)).length
  ·have d2:decide (((Aa (Q rs)).length:Nat)-1<(1:Int))=false:=by rw[decide_eq_false_iff_not];omega
   cases c3:JU r e with
   | false =>
    rw[c3] at h3;rw[decide_eq_true c2];exact Acy rs r t e f _ false false rfl d2 rfl h1 h2 h3
   | true =>
    rw[c3] at h3;cases c4:JU t f with
    | false =>
     rw[c4] at h4;rw[decide_eq_true c2];exact Acx rs r t e f _ false true false rfl d2 rfl rfl h1 h2 h3 h4
    | true =>
     rw[c4] at h4;obtain⟨a,rfl,ha,_⟩:=Rx c3;obtain⟨b,rfl,hb,_⟩:=Rx c4;rw[R,R,decide_eq_true c2];have h5:=Eh (hr.mono (show 100<=200 by omega)) (ht.mono (show 100<=200 by omega)) (a:=a) (b:=b) (by omega) (by omega);by_cases c5:Co (P r) a (P t) b=0
     ·rw[c5] at h5;rw[if_pos c5];obtain⟨x1,x2⟩:=O5 (fun r h=>(hg r h).mono (show 5<=500000 by omega)) hn hr (a:=a) (by omega);have h6:=A1j rs r (a:Nat) _ _ x1 x2;exact Acu rs r t (a:Nat) (b:Nat) _ 0 false true true _ rfl d2 rfl rfl rfl h1 h2 h3 h4 h5 h6
     ·rw[if_neg c5];by_cases c7:Co (P r) a (P t) b = -1
      ·rw[c7] at h5;have hch:=O1 hg hn;have hnice:=Hp hg hn;have hlen:=G_ hg hn;have x1:=IT hnice hr a (by omega) (by omega);have x2:=IT hnice ht b (by omega) (by omega);have hro:=sR rs _ r t (a:Nat) (b:Nat) _ _ hch x1 x2;rw[L0 (by omega)] at hro;have k:=Acv rs r t (a:Nat) (b:Nat) _ (-1) _ false true true rfl d2 rfl rfl rfl rfl h1 h2 h3 h4 h5 hro;have ee:decide (Co (P r) a (P t) b = -1/\Nv (Q rs) (P r) a (P t) b=1)=(Nv (Q rs) (P r) a (P t) b==1):=by
        rw[c7];cases hq:(Nv (Q rs) (P r) a (P t) b==1) with
        | true=>rw[decide_eq_true_eq];exact⟨rfl,by simpa using hq⟩
        | false=>rw[decide_eq_false_iff_not];exact fun g=>by rw[beq_eq_false_iff_ne] at hq;exact hq g.2
       rw[ee];exact k
      ·rw[decide_eq_false (fun g=>c7 g.1)];exact Acw rs r t (a:Nat) (b:Nat) _ _ false true true rfl d2 rfl rfl (by rw[beq_eq_false_iff_ne];exact c5) (by rw[beq_eq_false_iff_ne];exact c7) h1 h2 h3 h4 h5
  ·have d2:decide (((Aa (Q rs)).length:Nat)-1<(1:Int))=true:=by rw[decide_eq_true_eq];omega
   rw[decide_eq_false c2];exact Acs rs r t e f _ false rfl d2 h1 h2
end
def TXB:Cn:=TXA
theorem pN:Ca AY TXB:=pL
theorem SA(c x q:Int):∀ p:LI,hv p (c*x) (c*q)=c^(p.length-1)*hv p x q
 | []=>by simp[hv]
 | [a]=>by simp[hv]
 | a::b::p=>by
  have ih:=SA c x q (b::p);have e:∀ y d,hv (a::b::p) y d=a*d^(p.length+1)+y*hv (b::p) y d:=fun _ _=>rfl;have e1:(b::p).length-1=p.length:=rfl;have e2:(a::b::p).length-1=p.length+1:=rfl;rw[e1] at ih;rw[e,e,ih,e2,Q8,A2 c p.length];generalize hv (b::p) x q=H;generalize c^p.length=C;generalize q^(p.length+1)=Q;grind
theorem TA{c:Int}(hc:0<c)(v:Int):BJ (c*v)=BJ v:=by
 unfold BJ;rcases qU v 0 with h | h | h
 ·have:=Mm hc h;rw[if_pos this,if_pos h]
 ·subst h;rw[AM]
 ·have:=BL hc h;rw[if_neg (by omega),if_pos this,if_neg (by omega),if_pos h]
theorem Y9{p:LI}{x y:Int}{a b:Nat}(h:x*2^b=y*2^a):H2 p x a=H2 p y b:=by
 unfold H2;have pa:(0:Int)<2^a:=Ez (by decide);have pb:(0:Int)<2^b:=Ez (by decide);have qa:(0:Int)<(2^a)^(p.length-1):=Ez pa;have qb:(0:Int)<(2^b)^(p.length-1):=Ez pb;rw[<- TA qb (hv p x (2^a)),<- SA,<- TA qa (hv p y (2^b)),<- SA];rw[AA (2^b) x,h,AA (2^b) (2^a),AA (2^a) y]
def JO(p:LI)(lo:Int)(a:Nat)(hi:Int)(b:Nat)(x:Int)(c:Nat):Int :=
 if Co x c lo a<=0 then 1 else if Co x c hi b>0 then -1 else if H2 p x c=0 then 0 else if H2 p x c=H2 p hi b then -1 else 1
section
variable {p:LI} (hp:Rz p) {r t q:Rn} (hr:AO 100 r) (ht:AO 100 t) (hq:AO 100 q) {a b c:Nat} (ha:a<=4096) (hb:b<=4096) (hc:c<=4096)
include hr ht ha hb
include hp hq hc
theorem SB(hL:BZ p)(hne:Co (P r) a (P t) b ≠ 0):RQ 27 [o [H (p.map cn).length (pc (p.map cn)),D r.1,H r.2.length (lm r.2),F O (a:Nat),D t.1,H t.2.length (lm t.2),F O (b:Nat)],j q (c:Nat)]
  (F O (JO p (P r) a (P t) b (P q) c)):=by
 have h1:=Eh (hr.mono (show 100<=200 by omega)) (ht.mono (show 100<=200 by omega)) ha hb;have d1:(Co (P r) a (P t) b==0)=false:=beq_eq_false_iff_ne.2 hne;have h2:=Eh (hq.mono (show 100<=200 by omega)) (hr.mono (show 100<=200 by omega)) hc ha;have h3:=Eh (hq.mono (show 100<=200 by omega)) (ht.mono (show 100<=200 by omega)) hc hb;obtain⟨s1,s2⟩:=O5 (rs:=p.map cn) (AW hp.1) (by rw[N];exact hp.2) ht hb;obtain⟨s3,s4⟩:=O5 (rs:=p.map cn) (AW hp.1) (by rw[N];exact hp.2) hq hc;rw[v,hL] at s1 s2 s3 s4;unfold JO;by_cases c1:Co (P q) c (P r) a<=0
 ·rw[if_pos c1];exact Acz _ r t _ _ q _ _ _ _ d1 (decide_eq_true c1) h2 h3 h1
 rw[if_neg c1];by_cases c2:Co (P q) c (P t) b>0
 ·rw[if_pos c2];exact Ada _ r t _ _ q _ _ _ _ d1 (decide_eq_false c1) (decide_eq_true c2) h2 h3 h1
 rw[if_neg c2];by_cases c4:H2 p (P q) c=0
 ·rw[if_pos c4];exact Adb _ r t _ _ q _ _ _ _ _ _ _ _ d1 (decide_eq_false c1) (decide_eq_false c2) (by rw[beq_iff_eq];exact c4) h2 h3 h1 s3 s4 s1 s2
 rw[if_neg c4];have d4:(H2 p (P q) c==0)=false:=beq_eq_false_iff_ne.2 c4;by_cases c6:H2 p (P t) b=0
 ·rw[if_neg (by omega)];exact Adc _ r t _ _ q _ _ _ _ _ _ _ _ d1 (decide_eq_false c1) (decide_eq_false c2) d4 (by rw[beq_iff_eq];exact c6) h2 h3 h1 s3 s4 s1 s2
 by_cases c5:H2 p (P q) c=H2 p (P t) b
 ·rw[if_pos c5];exact Ade _ r t _ _ q _ _ _ _ _ _ _ _ d1 (decide_eq_false c1) (decide_eq_false c2) d4 (by rw[beq_eq_false_iff_ne];exact c6) (by rw[beq_iff_eq];exact c5) h2 h3 h1 s3 s4 s1 s2
 ·rw[if_neg c5];exact Adf _ r t _ _ q _ _ _ _ _ _ _ _ d1 (decide_eq_false c1) (decide_eq_false c2) d4 (by rw[beq_eq_false_iff_ne];exact c6) (by rw[beq_eq_false_iff_ne];exact c5) h2 h3 h1 s3 s4 s1 s2
end
structure Iv where
 r:Rn
 a:Nat
 t:Rn
 b:Nat
def Iv.mn(x:Iv):Int:=P7 (P x.r) x.a (P x.t) x.b
def Iv.me(x:Iv):Nat:=Nu (P x.r) x.a (P x.t) x.b
def Pi(p:LI)(x:Iv):Iv :=
 if Co (P x.r) x.a (P x.t) x.b=0 then x
 else if JO p (P x.r) x.a (P x.t) x.b x.mn x.me<=0 then ⟨x.r,x.a,cn x.mn,x.me⟩ else ⟨cn x.mn,x.me,x.t,x.b⟩
def Iv.av(p:LI)(x:Iv):AV := o [H (p.map cn).length (pc (p.map cn)),D x.r.1,H x.r.2.length (lm x.r.2),F O (x.a:Nat),D x.t.1,H x.t.2.length (lm x.t.2),F O (x.b:Nat)]
structure IvOk (C m:Nat) (x:Iv):Prop where
 gr:AO 100 x.r
 gt:AO 100 x.t
 a:x.a<=m
 b:x.b<=m
 vr:(P x.r).natAbs<=2^C*2^x.a
 vt:(P x.t).natAbs<=2^C*2^x.b
theorem R0{x a y b}:Nu x a y b<=max a b+1:=by unfold Nu;omega
theorem ZP{x:Int}{a:Nat}{y:Int}{b C:Nat}(hx:x.natAbs<=2^C*2^a)(hy:y.natAbs<=2^C*2^b):(P7 x a y b).natAbs<=2^C*2^Nu x a y b:=by
 have hz:=O3 (max a b+1) (I0 x a y b);have hd:=K0 (max a b+1) (I0 x a y b);have h1:(I0 x a y b).natAbs<=2^C*2^(max a b+1):=by
  unfold I0;have e1:(x*2^(max a b-a)).natAbs<=2^C*2^max a b:=by
   rw[BK,N5];have:2^C*2^max a b=2^C*2^a*2^(max a b-a):=by rw[EQ,<- De 2 a];congr 2;omega
   rw[this];exact Bj hx (Ap _)
  have e2:(y*2^(max a b-b)).natAbs<=2^C*2^max a b:=by
   rw[BK,N5];have:2^C*2^max a b=2^C*2^b*2^(max a b-b):=by rw[EQ,<- De 2 b];congr 2;omega
   rw[this];exact Bj hy (Ap _)
  have e3:2^C*2^(max a b+1)=2^C*2^max a b+2^C*2^max a b:=by rw[FM,<- EQ];omega
  omega
 unfold P7 Nu;generalize I0 x a y b=S at *
 generalize DO S (max a b+1)=z at *
 obtain⟨N,rfl⟩:=hd;have pz:(0:Int)<2^z:=Ez (by decide);rw[BT _ (by omega)];rw[BK,N5] at h1;have e4:2^C*2^(max a b+1)=2^z*(2^C*2^(max a b+1-z)):=by
  rw[Nat.mul_left_comm,<- De 2 z];congr 2;omega
 rw[e4] at h1;exact Nat.le_of_mul_le_mul_left h1 (BS (by decide))
theorem L1{n:Int}{k:Nat}(h:n.natAbs<=2^k){K:Nat}(hk:k<32*K):Bm K n:=by
 unfold Bm;have:(4294967296:Nat)^K=2^(32*K):=by rw[A6w]
 rw[this];exact Dt h (Qf (by decide) hk)
theorem A1p{p:LI}{C m:Nat}{x:Iv}(h:IvOk C m x)(hC:C+m+1<3000):IvOk C (m+1) (Pi p x):=by
 obtain⟨gr,gt,ha,hb,vr,vt⟩:=h;have e1:=ZP vr vt;have e2:x.me<=max x.a x.b+1:=R0;have e3:x.mn.natAbs<=2^C*2^x.me:=e1;have hf:AO 100 (cn x.mn):=BG (L1 (k:=C+x.me) (by rw[De];exact e3) (by omega));unfold Pi;split
 ·exact⟨gr,gt,by omega,by omega,vr,vt⟩
 ·split
  ·exact⟨gr,hf,by show x.a<=_;omega,by show x.me<=_;omega,vr,by show (P (cn x.mn)).natAbs<=_;rw[u];exact e3⟩
  ·exact⟨hf,gt,by show x.me<=_;omega,by show x.b<=_;omega,by show (P (cn x.mn)).natAbs<=_;rw[u];exact e3,vt⟩
section
variable {p:LI} (hp:Rz p) {C m:Nat} {x:Iv} (h:IvOk C m x) (hC:C+m+1<3000)
include hp h hC
theorem W5(hL:BZ p):RQ 72 [x.av p] ((Pi p x).av p):=by
 obtain⟨gr,gt,ha,hb,vr,vt⟩:=h;have h1:=Eh (gr.mono (show 100<=200 by omega)) (gt.mono (show 100<=200 by omega)) (a:=x.a) (b:=x.b) (by omega) (by omega);unfold Pi;by_cases c1:Co (P x.r) x.a (P x.t) x.b=0
 ·rw[if_pos c1];exact Adg _ x.r x.t _ _ _ (by rw[beq_iff_eq];exact c1) h1
 ·rw[if_neg c1];have d1:(Co (P x.r) x.a (P x.t) x.b==0)=false:=beq_eq_false_iff_ne.2 c1;have e3:x.mn.natAbs<=2^C*2^x.me:=ZP vr vt;have e2:x.me<=max x.a x.b+1:=R0;have hf:AO 100 (cn x.mn):=BG (L1 (k:=C+x.me) (by rw[De];exact e3) (by omega));have h2:=W3 (gr.mono (show 100<=200 by omega)) (gt.mono (show 100<=200 by omega)) (a:=x.a) (b:=x.b) (by omega) (by omega);have h3:=SB hp gr gt hf (a:=x.a) (b:=x.b) (c:=x.me) (by omega) (by omega) (by omega) hL c1;rw[u] at h3;by_cases c2:JO p (P x.r) x.a (P x.t) x.b x.mn x.me<=0
  ·rw[if_pos c2];exact Adh _ x.r x.t _ _ _ _ _ _ d1 (decide_eq_true c2) h1 h2 h3
  ·rw[if_neg c2];exact Adi _ x.r x.t _ _ _ _ _ _ d1 (decide_eq_false c2) h1 h2 h3
end
def TXC:Cn:=TXB
theorem Ds:Ca AY TXC:=pN
end Go.Proofs.YtajompaehjkgkaaGreat
namespace Go.Ai
open Int renaming toNat->A
open List renaming append_assoc->JQ,cons_append->HT,drop->p,drop_eq_getElem_cons->CL,drop_succ_cons->pO,getD_eq_getElem?_getD->Z,getElem?_eq_getElem->Af,length_append->AX,length_cons->Bv
open Nat renaming add_mul->D'
structure Rt where
 fs:List Rn
 r:Rn
 e:Int
 t:Rn
 f:Int
def Rt.cs(x:Rt):List AV:=[.sl x.fs.length (pc x.fs),.bool x.r.1,.sl x.r.2.length (lm x.r.2),.int .i64 x.e,.bool x.t.1,.sl x.t.2.length (lm x.t.2),.int .i64 x.f]
def zR:Rt:=⟨[],z0,0,z0,0⟩
def EH:List Rt->List AV
 | []=>[]
 | x::l=>x.cs++EH l
theorem TB:∀ l:List Rt,(EH l).length=l.length*7
 | []=>rfl
 | x::l=>by
  have h:=TB l;have e:x.cs.length=7:=rfl;simp only[EH,AX,Bv,D'];omega
theorem L2:∀ l k:List Rt,EH (l++k)=EH l++EH k
 | [],_=>rfl
 | x::l,k=>by rw[HT,EH,EH,L2 l k,JQ]
theorem SC:∀ (l:List Rt) (i:Nat),(EH l).drop (i*7)=EH (l.drop i)
 | [],i=>by simp[EH]
 | x::l,0=>rfl
 | x::l,i+1=>by
  rw[pO,<- SC l i];have e:EH (x::l) = .sl x.fs.length (pc x.fs) :: .bool x.r.1 :: .sl x.r.2.length (lm x.r.2) :: .int .i64 x.e :: .bool x.t.1 :: .sl x.t.2.length (lm x.t.2) :: .int .i64 x.f::EH l:=rfl;rw[e,show (i+1)*7=i*7+1+1+1+1+1+1+1 by omega];simp only[pO]
theorem IV{l:List Rt}{X:Int}(h:0<=X/\X<(l.length:Int)):Bn (p (A X*7) (EH l)) 0 7 false=some (.agg (l.getD (A X) zR).cs):=by
 have hl:=Ga h;rw[SC,CL hl];have e:l.getD (A X) zR=l[A X]:=by rw[Z,Af hl];rfl
 rw[e];rfl
end Go.Ai
namespace Go.Proofs.YtajompaehjkgkaaGreat
open Go.Ai
set_option maxRecDepth 100000
open Bool renaming and_eq_true->Ad,false_and->I8,not_eq_true'->Ea,true_and->OC
open Decidable renaming decide->B
open Go.Ai.AV renaming agg->o,bool->D,fresh->L,int->F,sl->H,tup->Ax
open Go.Ai.Reg renaming own->X,val->C
open Go.IntKind renaming i64->O,wrap->I
open Int renaming toNat->A,toNat_natCast->R
open List renaming all_eq_true->BA,drop->p,drop_eq_getElem_cons->CL,getD_eq_getElem?_getD->Z,getElem?_eq_getElem->Af,getElem_mem->CT,length->Bh,mem_iff_getElem->H3
open Nat renaming le_refl->Ap,zero_add->B_,zero_le->Ba
theorem Adk(r:Rn)(e z:Int)(c1:B (e>=0)=true)(c2:B (e<=64)=true)(n1:RQ 102 [As r] (F O z)):RQ 54 [j r e] (D (B (z<=128))):=i (fn:=UF) Ds rfl 400 rfl [.b true,.b true,.r (F O z)] (S c1 (S c2 (S n1 a0)))
theorem Adl(r:Rn)(e:Int)(c1:B (e>=0)=true)(c2:B (e<=64)=false):RQ 54 [j r e] (D false):=i (fn:=UF) Ds rfl 400 rfl [.b true,.b false] (S c1 (S c2 a0))
theorem Adm(r:Rn)(e:Int)(c1:B (e>=0)=false):RQ 54 [j r e] (D false):=i (fn:=UF) Ds rfl 400 rfl [.b false,.b false] (S c1 (S EI a0))
theorem W6(ls:List (List Rn))(r t:Rn)(e f x y m:Int)(c1:((I O (x-y))==0)=true):RQ 105 [sL pp ls,j r e,j t f,F O x,F O y,F O m] (.frs (.tp true) 7 0 []):=i (fn:=PI) Ds rfl 400 rfl [.b true] (S c1 a0)
theorem W7(ls:List (List Rn))(r t:Rn)(e f x y m:Int)(c1:((I O (x-y))==0)=false)(c2:((I O (x-y))==1)=true)(n1:0<=(0:Int)/\(0:Int)<(ls.length:Int)):RQ 105 [sL pp ls,j r e,j t f,F O x,F O y,F O m] (.frs (.tp true) 7 1 [H ((ls.getD (A 0) []).length) (pc (ls.getD (A 0) [])),D r.1,H r.2.length (lm r.2),F O e,D t.1,H t.2.length (lm t.2),F O f]):=i (fn:=PI) Ds rfl 400 rfl [.b false,.b true,.v (H ((ls.getD (A 0) []).length) (pc (ls.getD (A 0) [])))] (S c1 (S c2 (S n1 (S (Ff n1) a0))))
theorem pQ(ls:List (List Rn))(r t:Rn)(e f x y m n g v:Int)(b1 b2:Bool)(k1 k2:Nat)(cs1 cs2:List AV)(c1:((I O (x-y))==0)=false)(c2:((I O (x-y))==1)=false)(c3:B (g>m)=false)(c4:(b1)=true)(n1:Bh cs2=k2*7)(n2:k1+k2<=1048576)(n3:RQ 133 [j r e,j t f] (j (cn n) g))(n4:RQ 68 [sL pp ls,j (cn n) g] (F O v))(n5:RQ 105 [sL pp ls,j r e,j (cn n) g,F O x,F O v,F O m] (.frs (.tp b1) 7 k1 cs1))(n6:RQ 105 [sL pp ls,j (cn n) g,j t f,F O v,F O y,F O m] (.frs (.tp b2) 7 k2 cs2)):RQ 105 [sL pp ls,j r e,j t f,F O x,F O y,F O m] (.frs (.tp b2) 7 (k1+k2) (cs1++cs2)):=i (fn:=PI) Ds rfl 400 rfl [.b false,.b false,.r (j (cn n) g),.b false,.r (F O v),.r (.frs (.tp b1) 7 k1 cs1),.b false,.r (.frs (.tp b2) 7 k2 cs2)] (S c1 (S c2 (S n3 (S c3 (S n4 (S n5 (S (FQ c4) (S n6 (S n1 (S n2 a0))))))))))
theorem Adn(rs:List Rn)(ls:List (List Rn))(r t:Rn)(e f m:Int)(c1:B ((ls.length:Int)<2)=true)(n1:RQ 67 [sL pc rs] (L 1 ls.length (pp ls))):RQ 56 [sL pc rs,j r e,j t f,F O m] (.frs (.tp true) 7 0 []):=i (fn:=XN) Ds rfl 400 rfl [.r (L 1 ls.length (pp ls)),.b true] (S n1 (S c1 a0))
theorem Ado(rs:List Rn)(ls:List (List Rn))(r t:Rn)(e f x y m:Int)(b:Bool)(n:Nat)(cs:List AV)(c1:B ((ls.length:Int)<2)=false)(n1:RQ 67 [sL pc rs] (L 1 ls.length (pp ls)))(n2:RQ 68 [sL pp ls,j r e] (F O x))(n3:RQ 68 [sL pp ls,j t f] (F O y))(n4:RQ 105 [sL pp ls,j r e,j t f,F O x,F O y,F O m] (.frs (.tp b) 7 n cs)):RQ 56 [sL pc rs,j r e,j t f,F O m] (Ax [H n cs,D b]):=i (fn:=XN) Ds rfl 400 rfl [.r (L 1 ls.length (pp ls)),.b false,.r (F O x),.r (F O y),.r (.frs (.tp b) 7 n cs)] (S n1 (S c1 (S n2 (S n3 (S n4 a0)))))
def Nw(rs:List Rn)(l:List Rt)(k:Nat)(cs:List AV)(N:Int)(i:Int):Al:=(C (sL pc rs)::(Y 9 (X 7 k cs::(Y 34 (C (H l.length (EH l))::(C (F O N)::(C (F O i)::(Y 16 []))))))))
theorem A1q(rs:List Rn)(l:List Rt)(k:Nat)(cs:List AV)(N:Int)(i:Int)(ts:List Rn)(n m u v:Int)(sm:Bool)(c1:B (i<N)=true)(c2:(sm)=true)(n1:0<=i/\i<(l.length:Int))(n2:k+1<=1048576)(n3:RQ 52 [H (((l.getD (A i) zR).fs).length) (pc ((l.getD (A i) zR).fs))] (D sm))(n4:RQ 57 [D2 ((l.getD (A i) zR).fs) ((l.getD (A i) zR).r) ((l.getD (A i) zR).e) ((l.getD (A i) zR).t) ((l.getD (A i) zR).f)] (D2 ts (cn n) m (cn u) v)):Ar UC (Nw rs l k cs N i) .norm (Nw rs l (k+1) (cs++([sL pc ts,D ((cn n).1),H ((cn n).2.length) (lm (cn n).2),F O m,D ((cn u).1),H ((cn u).2.length) (lm (cn u).2),F O v]:List AV)) N (I O (i+1))):=(G Ds 400 [.b true,.v (D2 ((l.getD (A i) zR).fs) ((l.getD (A i) zR).r) ((l.getD (A i) zR).e) ((l.getD (A i) zR).t) ((l.getD (A i) zR).f)),.r (D sm),.b false,.r (D2 ts (cn n) m (cn u) v)] [0,10,45,46,47] (S c1 (S n1 (S (IV n1) (S n3 (S (FQ c2) (S n4 (S (show Bh ([sL pc ts,D ((cn n).1),H ((cn n).2.length) (lm (cn n).2),F O m,D ((cn u).1),H ((cn u).2.length) (lm (cn u).2),F O v]:List AV)=1*7 from rfl) (S n2 a0)))))))))
theorem A1r(rs:List Rn)(l:List Rt)(k:Nat)(cs:List AV)(N:Int)(i:Int)(c1:B (i<N)=false):Ar UC (Nw rs l k cs N i) (.exit 1) (Nw rs l k cs N i):=(G Ds 400 [.b false] [0,10,45,46,47] (S c1 a0))
theorem gI(rs:List Rn)(r t:Rn)(e f d:Int)(b:Bool)(c1:(b)=true)(c2:B (d<0)=true)(n1:RQ 52 [sL pc rs] (D b))(n2:RQ 53 [sL pc rs] (F O d)):RQ 15 [sL pc rs,j r e,j t f] (Ax [H 0 [],F O 3]):=A8 Ta (Y 6 (X 7 0 []::(C (F O 3)::(Y 56 [])))) (W (W (W (W (q (AJ (G Ds 400 [.r (D b),.b false,.r (F O d),.b true] [6,7] (S n1 (S (FQ c1) (S n2 (S c2 a0))))) (by nofun)))))))
theorem gJ(rs:List Rn)(r t:Rn)(e f d c:Int)(b v1 v2:Bool)(c1:(b)=true)(c2:B (d<0)=false)(c3:(v1)=true)(c4:(v2)=true)(c5:B (c>0)=true)(n1:RQ 52 [sL pc rs] (D b))(n2:RQ 53 [sL pc rs] (F O d))(n3:RQ 54 [j r e] (D v1))(n4:RQ 54 [j t f] (D v2))(n5:RQ 55 [j r e,j t f] (F O c)):RQ 15 [sL pc rs,j r e,j t f] (Ax [H 0 [],F O 1]):=A8 Ta (Y 6 (X 7 0 []::(C (F O 1)::(Y 56 [])))) (W (W (W (W (q (AJ (G Ds 400 [.r (D b),.b false,.r (F O d),.b false,.r (D v1),.b false,.r (D v2),.b false,.r (F O c),.b true] [6,7] (S n1 (S (FQ c1) (S n2 (S c2 (S n3 (S (FQ c3) (S n4 (S (FQ c4) (S n5 (S c5 a0))))))))))) (by nofun)))))))
theorem gK(rs:List Rn)(r t:Rn)(e f d c i:Int)(b v1 v2 ok:Bool)(l:List Rt)(k:Nat)(cs:List AV)(c1:(b)=true)(c2:B (d<0)=false)(c3:(v1)=true)(c4:(v2)=true)(c5:B (c>0)=false)(c6:(ok)=true)(n1:RQ 52 [sL pc rs] (D b))(n2:RQ 53 [sL pc rs] (F O d))(n3:RQ 54 [j r e] (D v1))(n4:RQ 54 [j t f] (D v2))(n5:RQ 55 [j r e,j t f] (F O c))(n6:RQ 56 [sL pc rs,j r e,j t f,F O 896] (.frs (.tp ok) 7 l.length (EH l)))(hl7:Ar (.loop UC) (Nw rs l 0 ([]:List AV) (l.length:Int) 0) (.exit 1) (Nw rs l k cs (l.length:Int) i)):RQ 15 [sL pc rs,j r e,j t f] (Ax [H k cs,F O 0]):=A8 Ta (Y 6 (X 7 k cs::(C (F O 0)::(Y 56 [])))) (W (W (W (W (q (Cv.seq (G Ds 400 [.r (D b),.b false,.r (F O d),.b false,.r (D v1),.b false,.r (D v2),.b false,.r (F O c),.b false,.r (.frs (.tp ok) 7 l.length (EH l)),.b false] [0,10,45,46,47] (S n1 (S (FQ c1) (S n2 (S c2 (S n3 (S (FQ c3) (S n4 (S (FQ c4) (S n5 (S c5 (S n6 (S (FQ c6) a0))))))))))))) (Cv.seq (Cv.block hl7) (G Ds 400 [] [6,7] a0))))))))
theorem gL(rs:List Rn)(r t:Rn)(e f d c i:Int)(b v1 v2 ok:Bool)(l:List Rt)(k:Nat)(cs:List AV)(c1:(b)=true)(c2:B (d<0)=false)(c3:(v1)=true)(c4:(v2)=true)(c5:B (c>0)=false)(c6:(ok)=true)(n1:RQ 52 [sL pc rs] (D b))(n2:RQ 53 [sL pc rs] (F O d))(n3:RQ 54 [j r e] (D v1))(n4:RQ 54 [j t f] (D v2))(n5:RQ 55 [j r e,j t f] (F O c))(n6:RQ 56 [sL pc rs,j r e,j t f,F O 896] (Ax [H l.length (EH l),D ok]))(hl7:Ar (.loop UC) (Nw rs l 0 ([]:List AV) (l.length:Int) 0) (.exit 1) (Nw rs l k cs (l.length:Int) i)):RQ 15 [sL pc rs,j r e,j t f] (Ax [H k cs,F O 0]):=A8 Ta (Y 6 (X 7 k cs::(C (F O 0)::(Y 56 [])))) (W (W (W (W (q (Cv.seq (G Ds 400 [.r (D b),.b false,.r (F O d),.b false,.r (D v1),.b false,.r (D v2),.b false,.r (F O c),.b false,.r (Ax [H l.length (EH l),D ok]),.b false] [0,10,45,46,47] (S n1 (S (FQ c1) (S n2 (S c2 (S n3 (S (FQ c3) (S n4 (S (FQ c4) (S n5 (S c5 (S n6 (S (FQ c6) a0))))))))))))) (Cv.seq (Cv.block hl7) (G Ds 400 [] [6,7] a0))))))))
theorem Aut(rs:List Rn)(ls:List (List Rn))(r t:Rn)(e f x y:Int)(n1:RQ 67 [sL pc rs] (L 1 ls.length (pp ls)))(n2:RQ 68 [sL pp ls,j r e] (F O x))(n3:RQ 68 [sL pp ls,j t f] (F O y)):RQ 136 [sL pc rs,j r e,j t f] (F O (I O (x-y))):=i (fn:=Vh) Ds rfl 400 rfl [.r (L 1 ls.length (pp ls)),.r (F O x),.r (F O y)] (S n1 (S n2 (S n3 a0)))
def A5c:Cn:=TXC
theorem Jw:Ca AY A5c:=Ds
theorem Adp(q:Rn)(g z:Int)(c1:B (g>=0)=true)(c2:B (g<=10)=true)(c3:B ((q.2.length:Int)<=1)=true)(n1:RQ 51 [As q] (F O z)):RQ 14 [j q g] (D (B (z<=20))):=i (fn:=S_) Jw rfl 400 rfl [.b true,.b true,.b true,.r (F O z)] (S c1 (S c2 (S c3 (S n1 a0))))
theorem Adq(q:Rn)(g:Int)(c1:B (g>=0)=true)(c2:B (g<=10)=true)(c3:B ((q.2.length:Int)<=1)=false):RQ 14 [j q g] (D false):=i (fn:=S_) Jw rfl 400 rfl [.b true,.b true,.b false] (S c1 (S c2 (S c3 a0)))
theorem Adr(q:Rn)(g:Int)(c1:B (g>=0)=true)(c2:B (g<=10)=false):RQ 14 [j q g] (D false):=i (fn:=S_) Jw rfl 400 rfl [.b true,.b false,.b false] (S c1 (S c2 (S EI a0)))
theorem Ads(q:Rn)(g:Int)(c1:B (g>=0)=false):RQ 14 [j q g] (D false):=i (fn:=S_) Jw rfl 400 rfl [.b false,.b false,.b false] (S c1 (S EI (S EI a0)))
def A5d:Cn:=A5c
theorem DD:Ca AY A5d:=Jw
theorem Adt(fs:List Rn)(r t:Rn)(e f:Int)(gs:List Rn)(c1:B ((gs.length:Int)<2)=true):RQ 69 [D2 fs r e t f,sL pc gs] (D false):=i (fn:=XP) DD rfl 400 rfl [.b true] (S c1 a0)
theorem Adu(fs:List Rn)(r t:Rn)(e f:Int)(gs:List Rn)(c n:Int)(c1:B ((gs.length:Int)<2)=false)(c2:(c==0)=false)(n1:RQ 33 [j r e,j t f] (F O c))(n2:RQ 63 [sL pc gs,j r e,j t f] (F O n)):RQ 69 [D2 fs r e t f,sL pc gs] (D (n==1)):=i (fn:=XP) DD rfl 400 rfl [.b false,.r (F O c),.b false,.r (F O n)] (S c1 (S n1 (S c2 (S n2 a0))))
theorem Adv(fs:List Rn)(r t:Rn)(e f:Int)(gs:List Rn)(p q:Rn)(c d:Int)(x:Int)(c1:B (x<=0)=true)(n1:RQ 33 [j t f,j p c] (F O x)):RQ 71 [D2 fs r e t f,D2 gs p c q d] (D true):=i (fn:=XR) DD rfl 400 rfl [.r (F O x),.b true] (S n1 (S c1 a0))
theorem Adw(fs:List Rn)(r t:Rn)(e f:Int)(gs:List Rn)(p q:Rn)(c d:Int)(x y:Int)(c1:B (x<=0)=false)(n1:RQ 33 [j t f,j p c] (F O x))(n2:RQ 33 [j q d,j r e] (F O y)):RQ 71 [D2 fs r e t f,D2 gs p c q d] (D (B (y<=0))):=i (fn:=XR) DD rfl 400 rfl [.r (F O x),.b false,.r (F O y)] (S n1 (S c1 (S n2 a0)))
def IW(o:Int)(fs:List Rn)(r:Rn)(e:Int)(t:Rn)(f:Int)(gs:List Rn)(p:Rn)(c:Int)(q:Rn)(d:Int)(i:Int):Al:=(Y 2 (Xz fs r e t f::(Xz gs p c q d::(C (F O o)::(C (F O i)::(Y 81 []))))))
theorem Auu(o:Int)(fs:List Rn)(r:Rn)(e:Int)(t:Rn)(f:Int)(gs:List Rn)(p:Rn)(c:Int)(q:Rn)(d:Int)(i:Int)(c1:(i==8)=false):Ar LC (IW o fs r e t f gs p c q d i) .norm (IW o fs r e t f gs p c q d i):=(G DD 400 [.b false,.b false,.b false,.b false] [2,3,4,5] (S c1 (S EI (S EI (S EI a0)))))
theorem Adx(o:Int)(fs:List Rn)(r:Rn)(e:Int)(t:Rn)(f:Int)(gs:List Rn)(p:Rn)(c:Int)(q:Rn)(d:Int)(i:Int)(hs:List Rn)(b1:Bool)(w_p w_q:Int)(c1:(i==8)=true)(c2:(b1)=true)(c3:B (w_p>0)=true)(c4:B (w_q<=0)=true)(n1:RQ 70 [sL pc fs,sL pc gs] (sL pc hs))(n2:RQ 69 [D2 fs r e t f,sL pc hs] (D b1))(n3:RQ 27 [D2 fs r e t f,j p c] (F O w_p))(n4:RQ 27 [D2 fs r e t f,j q d] (F O w_q)):Ar LC (IW o fs r e t f gs p c q d i) .ret (IW 0 fs r e t f gs p c q d i):=(G DD 400 [.b true,.r (sL pc hs),.r (D b1),.b true,.r (F O w_p),.b true,.r (F O w_q),.b true] [2,3,4,5] (S c1 (S n1 (S n2 (S c2 (S n3 (S c3 (S n4 (S c4 a0)))))))))
theorem Ady(o:Int)(fs:List Rn)(r:Rn)(e:Int)(t:Rn)(f:Int)(gs:List Rn)(p:Rn)(c:Int)(q:Rn)(d:Int)(i:Int)(hs:List Rn)(b1:Bool)(w_p w_q:Int)(c1:(i==8)=true)(c2:(b1)=true)(c3:B (w_p>0)=true)(c4:B (w_q<=0)=true)(n1:RQ 70 [sL pc fs,sL pc gs] (L 2 hs.length (pc hs)))(n2:RQ 69 [D2 fs r e t f,sL pc hs] (D b1))(n3:RQ 27 [D2 fs r e t f,j p c] (F O w_p))(n4:RQ 27 [D2 fs r e t f,j q d] (F O w_q)):Ar LC (IW o fs r e t f gs p c q d i) .ret (IW 0 fs r e t f gs p c q d i):=(G DD 400 [.b true,.r (L 2 hs.length (pc hs)),.r (D b1),.b true,.r (F O w_p),.b true,.r (F O w_q),.b true] [2,3,4,5] (S c1 (S n1 (S n2 (S c2 (S n3 (S c3 (S n4 (S c4 a0)))))))))
def Qo(o:Int)(fs:List Rn)(r:Rn)(e:Int)(t:Rn)(f:Int)(gs:List Rn)(p:Rn)(c:Int)(q:Rn)(d:Int)(i:Int):Al:=(Y 2 (Xz fs r e t f::(Xz gs p c q d::(C (F O o)::(C (F O i)::(Y 81 []))))))
theorem Auv(o:Int)(fs:List Rn)(r:Rn)(e:Int)(t:Rn)(f:Int)(gs:List Rn)(p:Rn)(c:Int)(q:Rn)(d:Int)(i:Int)(c1:B (i>=8)=false):Ar RK (Qo o fs r e t f gs p c q d i) .norm (Qo o fs r e t f gs p c q d i):=(G DD 400 [.b false,.b false] [2,3,4,5] (S c1 (S EI a0)))
def R1(o:Int)(fs:List Rn)(r:Rn)(e:Int)(t:Rn)(f:Int)(gs:List Rn)(p:Rn)(c:Int)(q:Rn)(d:Int)(i:Int):Al:=(Y 2 (Xz fs r e t f::(Xz gs p c q d::(C (F O o)::(C (F O i)::(Y 81 []))))))
theorem A1s(o:Int)(fs:List Rn)(r:Rn)(e:Int)(t:Rn)(f:Int)(gs:List Rn)(p:Rn)(c:Int)(q:Rn)(d:Int)(i:Int)(z:Int)(c_tp c_qr c_rt c_pq:Int)(c1:(c_rt==0)=false)(c2:(c_pq==0)=false)(c3:B (c_tp<0)=false)(c4:B (c_qr<0)=false)(n1:RQ 33 [j t f,j p c] (F O c_tp))(n2:RQ 33 [j q d,j r e] (F O c_qr))(n3:RQ 33 [j r e,j t f] (F O c_rt))(n4:RQ 33 [j p c,j q d] (F O c_pq))(hl5:Ar LC (IW o fs r e t f gs p c q d i) .ret (IW z fs r e t f gs p c q d i)):Ar Ps (R1 o fs r e t f gs p c q d i) .ret (R1 z fs r e t f gs p c q d i):=(AJ (CJ (Cv.seq (G DD 400 [.r (F O c_tp),.b false,.r (F O c_qr),.b false,.r (F O c_rt),.b false,.r (F O c_pq),.b false] [2,3,4,5] (S n1 (S c3 (S n2 (S c4 (S n3 (S c1 (S n4 (S c2 a0))))))))) (AJ hl5 (by nofun)))) (by nofun))
theorem Auw(o:Int)(fs:List Rn)(r:Rn)(e:Int)(t:Rn)(f:Int)(gs:List Rn)(p:Rn)(c:Int)(q:Rn)(d:Int)(i:Int)(z:Int)(c_tp c_qr c_rt c_pq:Int)(c1:(c_rt==0)=false)(c2:(c_pq==0)=false)(c3:B (c_tp<0)=false)(c4:B (c_qr<0)=false)(n1:RQ 33 [j t f,j p c] (F O c_tp))(n2:RQ 33 [j q d,j r e] (F O c_qr))(n3:RQ 33 [j r e,j t f] (F O c_rt))(n4:RQ 33 [j p c,j q d] (F O c_pq))(hl5:Ar LC (IW o fs r e t f gs p c q d i) .norm (IW o fs r e t f gs p c q d i))(hl6:Ar RK (Qo o fs r e t f gs p c q d i) .ret (Qo z fs r e t f gs p c q d i)):Ar Ps (R1 o fs r e t f gs p c q d i) .ret (R1 z fs r e t f gs p c q d i):=(AJ (CJ (Cv.seq (G DD 400 [.r (F O c_tp),.b false,.r (F O c_qr),.b false,.r (F O c_rt),.b false,.r (F O c_pq),.b false] [2,3,4,5] (S n1 (S c3 (S n2 (S c4 (S n3 (S c1 (S n4 (S c2 a0))))))))) (Cv.seq hl5 (AJ hl6 (by nofun))))) (by nofun))
theorem Aux(o:Int)(fs:List Rn)(r:Rn)(e:Int)(t:Rn)(f:Int)(gs:List Rn)(p:Rn)(c:Int)(q:Rn)(d:Int)(i:Int)(c_tp c_qr c_rt c_pq:Int)(fs1 gs1:List Rn)(r1 t1 p1 q1:Rn)(e1 f1 g1 h1:Int)(c1:(c_rt==0)=false)(c2:(c_pq==0)=false)(c3:B (c_tp<0)=false)(c4:B (c_qr<0)=false)(n1:RQ 33 [j t f,j p c] (F O c_tp))(n2:RQ 33 [j q d,j r e] (F O c_qr))(n3:RQ 33 [j r e,j t f] (F O c_rt))(n4:RQ 33 [j p c,j q d] (F O c_pq))(hl5:Ar LC (IW o fs r e t f gs p c q d i) .norm (IW o fs r e t f gs p c q d i))(hl6:Ar RK (Qo o fs r e t f gs p c q d i) .norm (Qo o fs r e t f gs p c q d i))(n7:RQ 72 [D2 fs r e t f] (D2 fs1 r1 e1 t1 f1))(n8:RQ 72 [D2 gs p c q d] (D2 gs1 p1 g1 q1 h1)):Ar Ps (R1 o fs r e t f gs p c q d i) .norm (R1 o fs1 r1 e1 t1 f1 gs1 p1 g1 q1 h1 (I O (i+1))):=(Cv.seq (Cd (Cv.seq (G DD 400 [.r (F O c_tp),.b false,.r (F O c_qr),.b false,.r (F O c_rt),.b false,.r (F O c_pq),.b false] [2,3,4,5] (S n1 (S c3 (S n2 (S c4 (S n3 (S c1 (S n4 (S c2 a0))))))))) (Cv.seq hl5 (Cv.seq hl6 (G (t:=(Y 2 (Xz fs1 r1 e1 t1 f1::(Xz gs1 p1 g1 q1 h1::(vi o::(vi i::(Y 81 []))))))) DD 400 [.r (D2 fs1 r1 e1 t1 f1),.r (D2 gs1 p1 g1 q1 h1)] [2,3,4,5] (S n7 (S n8 a0))))))) (G DD 400 [] [2,3,4,5] a0))
theorem A1t(fs:List Rn)(r t:Rn)(e f:Int)(gs:List Rn)(p q:Rn)(c d:Int)(z i:Int)(fs1 gs1:List Rn)(r1 t1 p1 q1:Rn)(e1 f1 g1 h1:Int)(hl1:Ar (.loop Ps) (R1 0 fs r e t f gs p c q d 0) .ret (R1 z fs1 r1 e1 t1 f1 gs1 p1 g1 q1 h1 i)):RQ 19 [D2 fs r e t f,D2 gs p c q d] (F O z):=A8 bE (Y 2 (Xz fs1 r1 e1 t1 f1::(Xz gs1 p1 g1 q1 h1::(C (F O z)::(C (F O i)::(Y 81 [])))))) (W (Cv.seq (G DD 400 [] [2,3,4,5] a0) (CJ hl1)))
def TXVA:Cn:=A5d
theorem CM:Ca AY TXVA:=DD
theorem W8{l:List Rt}{X:Int}(h:0<=X/\X<(l.length:Int)):Bn (p 1 (p (A X*7) (EH l))) 0 3 false=some (j (l.getD (A X) zR).r (l.getD (A X) zR).e)/\Bn (p 4 (p (A X*7) (EH l))) 0 3 false=some (j (l.getD (A X) zR).t (l.getD (A X) zR).f):=by
 have hl:=Ga h;rw[SC,CL hl];have e:l.getD (A X) zR=l[A X]:=by rw[Z,Af hl];rfl
 rw[e];exact⟨rfl,rfl⟩
theorem pR(k0:Nat)(cs0:List AV)(ls:List (List Rn))(r t:Rn)(e f x y:Int)(c1:(x==y)=true):RQ 109 [L 7 k0 cs0,sL pp ls,j r e,j t f,F O x,F O y] (L 7 k0 cs0):=i (fn:=PJ) CM rfl 400 rfl [.b true] (S c1 a0)
theorem pS(k0:Nat)(cs0:List AV)(ls:List (List Rn))(r t:Rn)(e f x y:Int)(c1:(x==y)=false)(c2:((I O (x-y))==1)=true)(n1:0<=(0:Int)/\(0:Int)<(ls.length:Int))(n2:k0+1<=1048576):RQ 109 [L 7 k0 cs0,sL pp ls,j r e,j t f,F O x,F O y] (L 7 (k0+1) (cs0++([H ((ls.getD (A 0) []).length) (pc (ls.getD (A 0) [])),D r.1,H r.2.length (lm r.2),F O e,D t.1,H t.2.length (lm t.2),F O f]:List AV))):=i (fn:=PJ) CM rfl 400 rfl [.b false,.b true,.v (H ((ls.getD (A 0) []).length) (pc (ls.getD (A 0) [])))] (S c1 (S c2 (S n1 (S (Ff n1) (S (show Bh ([H ((ls.getD (A 0) []).length) (pc (ls.getD (A 0) [])),D r.1,H r.2.length (lm r.2),F O e,D t.1,H t.2.length (lm t.2),F O f]:List AV)=1*7 from rfl) (S n2 a0))))))
theorem pU(k0:Nat)(cs0:List AV)(ls:List (List Rn))(r t:Rn)(e f x y n g v:Int)(k1 k2:Nat)(cs1 cs2:List AV)(c1:(x==y)=false)(c2:((I O (x-y))==1)=false)(n1:RQ 121 [j r e,j t f] (j (cn n) g))(n2:RQ 110 [sL pp ls,j (cn n) g] (F O v))(n3:RQ 109 [L 7 k0 cs0,sL pp ls,j r e,j (cn n) g,F O x,F O v] (L 7 k1 cs1))(n4:RQ 109 [L 7 k1 cs1,sL pp ls,j (cn n) g,j t f,F O v,F O y] (L 7 k2 cs2)):RQ 109 [L 7 k0 cs0,sL pp ls,j r e,j t f,F O x,F O y] (L 7 k2 cs2):=i (fn:=PJ) CM rfl 400 rfl [.b false,.b false,.r (j (cn n) g),.r (F O v),.r (L 7 k1 cs1),.r (L 7 k2 cs2)] (S c1 (S c2 (S n1 (S n2 (S n3 (S n4 a0))))))
theorem Adz(rs:List Rn)(ls:List (List Rn))(r t:Rn)(e f:Int)(c1:B ((ls.length:Int)<2)=true)(n1:RQ 108 [sL pc rs] (L 1 ls.length (pp ls))):RQ 60 [sL pc rs,j r e,j t f] (L 7 0 []):=i (fn:=UI) CM rfl 400 rfl [.r (L 1 ls.length (pp ls)),.b true,.b true] (S n1 (S c1 (S Ip a0)))
theorem Aea(rs:List Rn)(ls:List (List Rn))(r t:Rn)(e f c:Int)(c1:B ((ls.length:Int)<2)=false)(c2:B (c>=0)=true)(n1:RQ 108 [sL pc rs] (L 1 ls.length (pp ls)))(n2:RQ 33 [j r e,j t f] (F O c)):RQ 60 [sL pc rs,j r e,j t f] (L 7 0 []):=i (fn:=UI) CM rfl 400 rfl [.r (L 1 ls.length (pp ls)),.b false,.r (F O c),.b true] (S n1 (S c1 (S n2 (S c2 a0))))
theorem Aeb(rs:List Rn)(ls:List (List Rn))(r t:Rn)(e f c x y:Int)(k:Nat)(cs:List AV)(c1:B ((ls.length:Int)<2)=false)(c2:B (c>=0)=false)(n1:RQ 108 [sL pc rs] (L 1 ls.length (pp ls)))(n2:RQ 33 [j r e,j t f] (F O c))(n3:RQ 110 [sL pp ls,j r e] (F O x))(n4:RQ 110 [sL pp ls,j t f] (F O y))(n5:RQ 109 [L 7 0 [],sL pp ls,j r e,j t f,F O x,F O y] (L 7 k cs)):RQ 60 [sL pc rs,j r e,j t f] (L 7 k cs):=i (fn:=UI) CM rfl 400 rfl [.r (L 1 ls.length (pp ls)),.b false,.r (F O c),.b false,.r (F O x),.r (F O y),.r (L 7 k cs)] (S n1 (S c1 (S n2 (S c2 (S n3 (S n4 (S n5 a0)))))))
def P8(l:List Rt)(i:Int):Al:=(Y 8 (C (H l.length (EH l))::(C (F O i)::(Y 71 []))))
theorem A1u(l:List Rt)(i:Int)(c1:B (i<(l.length:Int))=true)(n1:0<=i/\i<(l.length:Int))(n2:RQ 61 [j ((l.getD (A i) zR).r) ((l.getD (A i) zR).e)] (D true))(n3:RQ 61 [j ((l.getD (A i) zR).t) ((l.getD (A i) zR).f)] (D true)):Ar XK (P8 l i) .norm (P8 l (I O (i+1))):=(G CM 400 [.b true,.v (j ((l.getD (A i) zR).r) ((l.getD (A i) zR).e)),.r (D true),.b false,.v (j ((l.getD (A i) zR).t) ((l.getD (A i) zR).f)),.r (D true),.b false] [8,9] (S c1 (S n1 (S (W8 n1).1 (S n2 (S EI (S n1 (S (W8 n1).2 (S n3 (S EI a0))))))))))
theorem A1v(l:List Rt)(i:Int)(c1:B (i<(l.length:Int))=false):Ar XK (P8 l i) (.exit 1) (P8 l i):=(G CM 400 [.b false] [8,9] (S c1 a0))
theorem Aec(rs:List Rn)(r t:Rn)(e f d:Int)(b:Bool)(c1:(b)=false)(c2:B (d<0)=true)(n1:RQ 58 [sL pc rs] (D b))(n2:RQ 21 [sL pc rs] (F O d)):RQ 16 [sL pc rs,j r e,j t f] (Ax [H 0 [],F O 3]):=A8 UD (Y 6 (X 7 0 []::(C (F O 3)::(Y 73 [])))) (W (W (q (AJ (G CM 400 [.r (D b),.b false,.r (F O d),.b true] [6,7] (S n1 (S c1 (S n2 (S c2 a0))))) (by nofun)))))
theorem Aed(rs:List Rn)(r t:Rn)(e f d c m1 m2:Int)(b:Bool)(c1:(b)=false)(c2:B (d<0)=false)(c3:B (e>64)=false)(c4:B (f>64)=false)(c5:B (m1>128)=false)(c6:B (m2>128)=false)(c7:B (c>0)=true)(n1:RQ 58 [sL pc rs] (D b))(n2:RQ 21 [sL pc rs] (F O d))(n3:RQ 59 [j r e] (D true))(n4:RQ 59 [j t f] (D true))(n5:RQ 51 [As r] (F O m1))(n6:RQ 51 [As t] (F O m2))(n7:RQ 33 [j r e,j t f] (F O c)):RQ 16 [sL pc rs,j r e,j t f] (Ax [H 0 [],F O 1]):=A8 UD (Y 6 (X 7 0 []::(C (F O 1)::(Y 73 [])))) (W (W (q (AJ (G CM 400 [.r (D b),.b false,.r (F O d),.b false,.r (D true),.b false,.r (D true),.b false,.b false,.b false,.r (F O m1),.b false,.r (F O m2),.b false,.r (F O c),.b true] [6,7] (S n1 (S c1 (S n2 (S c2 (S n3 (S EI (S n4 (S EI (S c3 (S c4 (S n5 (S c5 (S n6 (S c6 (S n7 (S c7 a0))))))))))))))))) (by nofun)))))
theorem Aee(rs:List Rn)(r t:Rn)(e f d c i m1 m2:Int)(b:Bool)(l:List Rt)(c1:(b)=false)(c2:B (d<0)=false)(c3:B (e>64)=false)(c4:B (f>64)=false)(c5:B (m1>128)=false)(c6:B (m2>128)=false)(c7:B (c>0)=false)(n1:RQ 58 [sL pc rs] (D b))(n2:RQ 21 [sL pc rs] (F O d))(n3:RQ 59 [j r e] (D true))(n4:RQ 59 [j t f] (D true))(n5:RQ 51 [As r] (F O m1))(n6:RQ 51 [As t] (F O m2))(n7:RQ 33 [j r e,j t f] (F O c))(n8:RQ 60 [sL pc rs,j r e,j t f] (L 7 l.length (EH l)))(hl9:Ar (.loop XK) (P8 l 0) (.exit 1) (P8 l i)):RQ 16 [sL pc rs,j r e,j t f] (Ax [H l.length (EH l),F O 0]):=A8 UD (Y 6 (C (H l.length (EH l))::(C (F O 0)::(Y 73 [])))) (W (W (q (Cv.seq (G CM 400 [.r (D b),.b false,.r (F O d),.b false,.r (D true),.b false,.r (D true),.b false,.b false,.b false,.r (F O m1),.b false,.r (F O m2),.b false,.r (F O c),.b false,.r (L 7 l.length (EH l))] [8,9] (S n1 (S c1 (S n2 (S c2 (S n3 (S EI (S n4 (S EI (S c3 (S c4 (S n5 (S c5 (S n6 (S c6 (S n7 (S c7 (S n8 a0)))))))))))))))))) (Cv.seq (Cv.block hl9) (G CM 400 [] [6,7] a0))))))
def X1(o:Bool)(l:List Rt)(m:List Rt)(i:Int):Al:=(Y 6 (C (D o)::(C (H l.length (EH l))::(Y 1 (C (H m.length (EH m))::(Y 1 (C (F O i)::(Y 81 []))))))))
theorem A6i(o:Bool)(l:List Rt)(m:List Rt)(i:Int)(gs:List Rn)(p q1:Rn)(c d:Int)(c1:B (i<(l.length:Int))=true)(n1:0<=i/\i<(l.length:Int))(n2:0<=i/\i<(m.length:Int))(n3:RQ 17 [D2 ((l.getD (A i) zR).fs) ((l.getD (A i) zR).r) ((l.getD (A i) zR).e) ((l.getD (A i) zR).t) ((l.getD (A i) zR).f)] (D true))(n4:RQ 18 [D2 ((l.getD (A i) zR).fs) ((l.getD (A i) zR).r) ((l.getD (A i) zR).e) ((l.getD (A i) zR).t) ((l.getD (A i) zR).f)] (D true))(n5:RQ 18 [D2 ((m.getD (A i) zR).fs) ((m.getD (A i) zR).r) ((m.getD (A i) zR).e) ((m.getD (A i) zR).t) ((m.getD (A i) zR).f)] (D true))(n6:RQ 20 [D2 ((l.getD (A i) zR).fs) ((l.getD (A i) zR).r) ((l.getD (A i) zR).e) ((l.getD (A i) zR).t) ((l.getD (A i) zR).f)] (D2 gs p c q1 d))(n7:RQ 19 [D2 gs p c q1 d,D2 ((m.getD (A i) zR).fs) ((m.getD (A i) zR).r) ((m.getD (A i) zR).e) ((m.getD (A i) zR).t) ((m.getD (A i) zR).f)] (F O 0)):Ar tW (X1 o l m i) .norm (X1 o l m (I O (i+1))):=(G CM 400 [.b true,.v (D2 ((l.getD (A i) zR).fs) ((l.getD (A i) zR).r) ((l.getD (A i) zR).e) ((l.getD (A i) zR).t) ((l.getD (A i) zR).f)),.r (D true),.b false,.v (D2 ((l.getD (A i) zR).fs) ((l.getD (A i) zR).r) ((l.getD (A i) zR).e) ((l.getD (A i) zR).t) ((l.getD (A i) zR).f)),.r (D true),.b false,.v (D2 ((m.getD (A i) zR).fs) ((m.getD (A i) zR).r) ((m.getD (A i) zR).e) ((m.getD (A i) zR).t) ((m.getD (A i) zR).f)),.r (D true),.b false,.v (D2 ((l.getD (A i) zR).fs) ((l.getD (A i) zR).r) ((l.getD (A i) zR).e) ((l.getD (A i) zR).t) ((l.getD (A i) zR).f)),.r (D2 gs p c q1 d),.v (D2 ((m.getD (A i) zR).fs) ((m.getD (A i) zR).r) ((m.getD (A i) zR).e) ((m.getD (A i) zR).t) ((m.getD (A i) zR).f)),.r (F O 0),.b false] [6,7,9,11] (S c1 (S n1 (S (IV n1) (S n3 (S EI (S n1 (S (IV n1) (S n4 (S EI (S n2 (S (IV n2) (S n5 (S EI (S n1 (S (IV n1) (S n6 (S n2 (S (IV n2) (S n7 (S EI a0)))))))))))))))))))))
theorem A6j(o:Bool)(l:List Rt)(m:List Rt)(i:Int)(c1:B (i<(l.length:Int))=false):Ar tW (X1 o l m i) (.exit 0) (X1 o l m i):=(G CM 400 [.b false] [6,7,9,11] (S c1 a0))
theorem Auy(rs:List Rn)(r t:Rn)(e f z i:Int)(l m:List Rt)(b v1 v2:Bool)(c1:(z != z)=false)(c2:(b)=true)(c3:(v1)=true)(c4:(v2)=true)(c5:((l.length:Int) != (m.length:Int))=false)(n1:RQ 12 [] (D true))(n2:RQ 13 [sL pc rs] (D b))(n3:RQ 14 [j r e] (D v1))(n4:RQ 14 [j t f] (D v2))(n5:RQ 15 [sL pc rs,j r e,j t f] (Ax [H l.length (EH l),F O z]))(n6:RQ 16 [sL pc rs,j r e,j t f] (Ax [H m.length (EH m),F O z]))(hl7:Ar (.loop tW) (X1 false l m 0) (.exit 0) (X1 false l m i)):RQ 3 [sL pc rs,j r e,j t f] (D true):=A8 bD (Y 6 (C (D true)::(Y 86 []))) (W (W (W (W (W (q (Cv.seq (G CM 400 [.r (D true),.b false,.r (D b),.b false,.r (D v1),.b false,.r (D v2),.b false,.r (Ax [H l.length (EH l),F O z]),.r (Ax [H m.length (EH m),F O z]),.b false,.b false] [6,7,9,11] (S n1 (S EI (S n2 (S (FQ c2) (S n3 (S (FQ c3) (S n4 (S (FQ c4) (S n5 (S n6 (S c1 (S c5 a0))))))))))))) (Cv.seq (Cv.block hl7) (G CM 400 [] [6] a0)))))))))
theorem Auz(rs:List Rn)(r t:Rn)(e f:Int)(b v1 v2:Bool)(c2:(b)=true)(c3:(v1)=true)(c4:(v2)=false)(n1:RQ 12 [] (D true))(n2:RQ 13 [sL pc rs] (D b))(n3:RQ 14 [j r e] (D v1))(n4:RQ 14 [j t f] (D v2)):RQ 3 [sL pc rs,j r e,j t f] (D true):=A8 bD (Y 6 (C (D true)::(Y 86 []))) (W (W (W (W (W (q (AJ (G CM 400 [.r (D true),.b false,.r (D b),.b false,.r (D v1),.b false,.r (D v2),.b true,.r (D true)] [6] (S n1 (S EI (S n2 (S (FQ c2) (S n3 (S (FQ c3) (S n4 (S (W_ c4) (S n1 a0)))))))))) (by nofun))))))))
theorem Ava(rs:List Rn)(r t:Rn)(e f:Int)(b v1:Bool)(c2:(b)=true)(c3:(v1)=false)(n1:RQ 12 [] (D true))(n2:RQ 13 [sL pc rs] (D b))(n3:RQ 14 [j r e] (D v1)):RQ 3 [sL pc rs,j r e,j t f] (D true):=A8 bD (Y 6 (C (D true)::(Y 86 []))) (W (W (W (W (W (q (AJ (G CM 400 [.r (D true),.b false,.r (D b),.b false,.r (D v1),.b true,.b true,.r (D true)] [6] (S n1 (S EI (S n2 (S (FQ c2) (S n3 (S (W_ c3) (S Ip (S n1 a0))))))))) (by nofun))))))))
theorem Avb(rs:List Rn)(r t:Rn)(e f:Int)(b:Bool)(c2:(b)=false)(n1:RQ 12 [] (D true))(n2:RQ 13 [sL pc rs] (D b)):RQ 3 [sL pc rs,j r e,j t f] (D true):=A8 bD (Y 6 (C (D true)::(Y 86 []))) (W (W (W (W (W (q (AJ (G CM 400 [.r (D true),.b false,.r (D b),.b true,.b true,.b true,.r (D true)] [6] (S n1 (S EI (S n2 (S (W_ c2) (S Ip (S Ip (S n1 a0)))))))) (by nofun))))))))
def Nx(rs:List Rn):Bool:=decide (rs.length<=9)&&rs.all fun r=>decide (CR (P r).natAbs<=100)&&decide (r.2.length<=5)
theorem Avc{rs:List Rn}(hg:∀ r∈rs,AO 35184372088832 r):RQ 13 [sL pc rs] (D (Nx rs)):=by
 by_cases c9:rs.length<=9
 ·have d9:decide ((rs.length:Int)>9)=false:=by rw[decide_eq_false_iff_not];omega
  have hb:∀ t:Nat,RQ 51 [As (rs.getD t z0)] (F O ((CR (P (rs.getD t z0)).natAbs:Nat):Int)):=fun t=>HR (Bg hg t).1 (Bg hg t).2;have step:∀ t:Nat,t<rs.length->(!(decide (CR (P (rs.getD t z0)).natAbs<=100)&&decide ((rs.getD t z0).2.length<=5)))=false->Ar NP (IB false rs (t:Nat)) .norm (IB false rs ((t+1:Nat):Int)):=by
   intro t ht hk;simp only[Bool.not_eq_false',Ad,decide_eq_true_eq] at hk;have ei:I O ((t:Int)+1)=((t+1:Nat):Int):=by rw[Bl (by omega) (by omega)];omega
   have k:=A1n false rs (t:Nat) ((CR (P (rs.getD t z0)).natAbs:Nat):Int) (by simp;omega) (by rw[decide_eq_false_iff_not];omega) (by rw[R,decide_eq_false_iff_not];omega) (by omega) (by rw[R];exact hb t);rwa [ei] at k
  rcases Ju (fun j => !(decide (CR (P (rs.getD j z0)).natAbs<=100)&&decide ((rs.getD j z0).2.length<=5))) rs.length _ 0 (by rw[B_]) with h | ⟨j,_,h2,h3,h4⟩
  ·have e:Nx rs=true:=by
    unfold Nx;rw[decide_eq_true c9,OC,BA];intro r hr;obtain⟨i,hi,rfl⟩:=H3.1 hr;have:=h i (by omega) hi;rw[Z,Af hi] at this;simpa using this
   rw[e];exact gH rs _ d9 (FB (prog:=AY) (c:=NP) (ex := .exit 0) (fun t=>IB false rs (t:Nat)) rs.length (by nofun) (A1o false rs _ (by simp)) 0 (Ba _) (fun t _ h6=>step t h6 (h t (by omega) h6)))
  ·have e:Nx rs=false:=by
    unfold Nx;rw[decide_eq_true c9,OC,List.all_eq_false];refine⟨rs.getD j z0,?_,?_⟩
    ·rw[Z,Af h2];exact CT h2
    ·intro g;rw[g] at h3;cases h3
   rw[e];have out:Ar NP (IB false rs (j:Nat)) .ret (IB false rs (j:Nat)):=by
    by_cases c:CR (P (rs.getD j z0)).natAbs<=100
    ·rw[decide_eq_true c,OC] at h3;simp only[Ea,decide_eq_false_iff_not] at h3;exact A1m false rs (j:Nat) ((CR (P (rs.getD j z0)).natAbs:Nat):Int) (by simp;omega) (by rw[decide_eq_false_iff_not];omega) (by rw[R,decide_eq_true_eq];omega) (by omega) (by rw[R];exact hb j)
    ·exact A1l false rs (j:Nat) ((CR (P (rs.getD j z0)).natAbs:Nat):Int) (by simp;omega) (by rw[decide_eq_true_eq];omega) (by omega) (by rw[R];exact hb j)
   exact gG rs _ d9 (FB (prog:=AY) (c:=NP) (ex := .ret) (fun t=>IB false rs (t:Nat)) j (by nofun) out 0 (Ba _) (fun t _ h6=>step t (by omega) (h4 t (by omega) h6)))
 ·have e:Nx rs=false:=by unfold Nx;rw[decide_eq_false c9,I8]
  rw[e];exact gF rs (by rw[decide_eq_true_eq];omega)
theorem Avd{rs:List Rn}(hg:∀ r∈rs,AO 35184372088832 r)(h:Nx rs=true):(∀ r∈rs,AO 5 r)/\rs.length<=9:=by
 unfold Nx at h;simp only[Ad,decide_eq_true_eq,BA] at h;exact⟨fun r hr=>⟨(hg r hr).1,(h.2 r hr).2⟩,h.1⟩
def W9(p:LI)(x:Iv):Nat->Iv
 | 0=>x
 | n+1=>Pi p (W9 p x n)
theorem WA{p:LI}{C m:Nat}{x:Iv}(h:IvOk C m x):∀ n,C+m+n<3000->IvOk C (m+n) (W9 p x n)
 | 0,_=>h
 | n+1,hc=>A1p (m:=m+n) (WA h n (by omega)) (by omega)
section
variable {p:LI} (hp:Rz p) {x:Iv} (h:IvOk 128 200 x) {fs:List Rn} {r0:Rn} {e0:Int} {t0:Rn} {f0:Int}
include hp h
end
section
variable {rs:List Rn} (hg:∀ r∈rs,AO 5 r) (hn:rs.length<=9)
include hg hn
theorem pV(r t:Rn)(e f:Int):RQ 20 [o [sL pc rs,D r.1,H r.2.length (lm r.2),F O e,D t.1,H t.2.length (lm t.2),F O f]]
  (o [H ((Ag (Q rs)).map cn).length (pc ((Ag (Q rs)).map cn)),D r.1,H r.2.length (lm r.2),F O e,D t.1,H t.2.length (lm t.2),F O f]) :=
 A1k rs r t e f _ (Rv (K:=5) (c:=9) hg hn (Ap _) (by decide))
end
end Go.Proofs.YtajompaehjkgkaaGreat
