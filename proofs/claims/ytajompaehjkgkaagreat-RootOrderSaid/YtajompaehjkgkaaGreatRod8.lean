/- Texts of the proof of RootOrder: part 8 of 13. -/
import Derived.Test.YtajompaehjkgkaaGreatRod7
namespace Go.Proofs.YtajompaehjkgkaaGreat
open Go.Ai
set_option maxRecDepth 100000
open Decidable renaming decide->A9i
open Go.Ai.AV renaming bool->F,fresh->L,int->D,sl->H,tup->Ax
open Go.Ai.Reg renaming box->A9s,own->A9n,val->A9j
open Go.IntKind renaming i64->O,wrap->I
open Int renaming toNat->A
def GL(qs:List Rn)(k:Nat)(rs:List Rn)(t:Rn)(a:Rn)(b:Rn)(at1:Int)(n:Int)(i:Int):Al:=(Ac 1 (A9j (Y pc qs)::(Ac 3 (A9n 2 k (pc rs)::(A9s [F t.1,H t.2.length (W t.2)]::(Ac 2 (A9s [F a.1,H a.2.length (W a.2)]::(Ac 1 (A9s [F b.1,H b.2.length (W b.2)]::(Ac 1 (A9j (D O at1)::(Ac 49 (A9j (D O n)::(A9j (D O i)::(Ac 34 [])))))))))))))))
theorem Acq(qs:List Rn)(k:Nat)(rs:List Rn)(t:Rn)(a:Rn)(b:Rn)(at1:Int)(n:Int)(i:Int)(c1:A9i (i<n)=true)(c2:A9i (i>=at1)=true)(n1:0<=i/\i<(k:Int))(n2:rs.length=k)(n3:(rs.set (A i) (V ((Q (rs.getD (A i) z0))*(Q a)))).length=k)(n4:0<=(I O (i-at1))/\(I O (i-at1))<(qs.length:Int))(n5:RQ 112 [Ay (rs.getD (A i) z0),Ay a] (Ag ((Q (rs.getD (A i) z0))*(Q a))))(n6:RQ 112 [Ay b,Ay (qs.getD (A (I O (i-at1))) z0)] (Ag ((Q b)*(Q (qs.getD (A (I O (i-at1))) z0)))))(n7:RQ 127 [Ay ((rs.set (A i) (V ((Q (rs.getD (A i) z0))*(Q a)))).getD (A i) z0),Ag ((Q b)*(Q (qs.getD (A (I O (i-at1))) z0)))] (Ag ((Q ((rs.set (A i) (V ((Q (rs.getD (A i) z0))*(Q a)))).getD (A i) z0))-((Q b)*(Q (qs.getD (A (I O (i-at1))) z0)))))):Ar Lv (GL qs k rs t a b at1 n i) .norm (GL qs k ((rs.set (A i) (V ((Q (rs.getD (A i) z0))*(Q a)))).set (A i) (V ((Q ((rs.set (A i) (V ((Q (rs.getD (A i) z0))*(Q a)))).getD (A i) z0))-((Q b)*(Q (qs.getD (A (I O (i-at1))) z0)))))) t a b at1 n (I O (i+1))):=(G Bn 400 [.b true,.v (Ay (rs.getD (A i) z0)),.r (Ag ((Q (rs.getD (A i) z0))*(Q a))),.l (pc (rs.set (A i) (V ((Q (rs.getD (A i) z0))*(Q a))))),.b true,.v (Ay ((rs.set (A i) (V ((Q (rs.getD (A i) z0))*(Q a)))).getD (A i) z0)),.v (Ay (qs.getD (A (I O (i-at1))) z0)),.r (Ag ((Q b)*(Q (qs.getD (A (I O (i-at1))) z0)))),.r (Ag ((Q ((rs.set (A i) (V ((Q (rs.getD (A i) z0))*(Q a)))).getD (A i) z0))-((Q b)*(Q (qs.getD (A (I O (i-at1))) z0))))),.l (pc ((rs.set (A i) (V ((Q (rs.getD (A i) z0))*(Q a)))).set (A i) (V ((Q ((rs.set (A i) (V ((Q (rs.getD (A i) z0))*(Q a)))).getD (A i) z0))-((Q b)*(Q (qs.getD (A (I O (i-at1))) z0)))))))] [1,5,6,9,11,13,63,64] (T c1 (T n1 (T (F_ n2 n1) (T n5 (T n1 (T (FA (r:=V ((Q (rs.getD (A i) z0))*(Q a))) n2 n1) (T c2 (T n1 (T (F_ n3 n1) (T n4 (T (BN n4) (T n6 (T n7 (T n1 (T (FA (r:=V ((Q ((rs.set (A i) (V ((Q (rs.getD (A i) z0))*(Q a)))).getD (A i) z0))-((Q b)*(Q (qs.getD (A (I O (i-at1))) z0))))) n3 n1) a0))))))))))))))))
theorem Acr(qs:List Rn)(k:Nat)(rs:List Rn)(t:Rn)(a:Rn)(b:Rn)(at1:Int)(n:Int)(i:Int)(c1:A9i (i<n)=true)(c2:A9i (i>=at1)=false)(n1:0<=i/\i<(k:Int))(n2:rs.length=k)(n3:RQ 112 [Ay (rs.getD (A i) z0),Ay a] (Ag ((Q (rs.getD (A i) z0))*(Q a)))):Ar Lv (GL qs k rs t a b at1 n i) .norm (GL qs k (rs.set (A i) (V ((Q (rs.getD (A i) z0))*(Q a)))) t a b at1 n (I O (i+1))):=(G Bn 400 [.b true,.v (Ay (rs.getD (A i) z0)),.r (Ag ((Q (rs.getD (A i) z0))*(Q a))),.l (pc (rs.set (A i) (V ((Q (rs.getD (A i) z0))*(Q a))))),.b false] [1,5,6,9,11,13,63,64] (T c1 (T n1 (T (F_ n2 n1) (T n3 (T n1 (T (FA (r:=V ((Q (rs.getD (A i) z0))*(Q a))) n2 n1) (T c2 a0))))))))
theorem Acs(qs:List Rn)(k:Nat)(rs:List Rn)(t:Rn)(a:Rn)(b:Rn)(at1:Int)(n:Int)(i:Int)(c1:A9i (i<n)=false):Ar Lv (GL qs k rs t a b at1 n i) (.exit 2) (GL qs k rs t a b at1 n i):=(G Bn 400 [.b false] [1,5,6,9,11,13,63,64] (T c1 a0))
def J'(qs:List Rn)(k:Nat)(rs:List Rn)(t:Rn):Al:=(Ac 1 (A9j (Y pc qs)::(Ac 3 (A9n 2 k (pc rs)::(A9s [F t.1,H t.2.length (W t.2)]::(Ac 92 []))))))
theorem Avl(qs:List Rn)(k:Nat)(rs:List Rn)(t:Rn)(os us:List Rn)(a b:Rn)(g ab x y ny r1 r2 s at1 n i:Int)(c1:A9i ((k:Int)>=(qs.length:Int))=true)(c2:A9i (s<0)=true)(n1:0<=(I O ((k:Int)-1))/\(I O ((k:Int)-1))<(k:Int))(n2:rs.length=k)(n3:RQ 159 [Ay t,Ay (rs.getD (A (I O ((k:Int)-1))) z0)] (Ag g))(n4:RQ 160 [Ay t] (Ag ab))(n5:RQ 158 [Ag ab,Ag g] (Ax [Ag x,Ag r1]))(n6:RQ 158 [Ay (rs.getD (A (I O ((k:Int)-1))) z0),Ag g] (Ax [Ag y,Ag r2]))(n7:RQ 101 [Ay t] (D O s))(n8:RQ 131 [Ag y] (Ag ny))(hl9:Ar (.loop Lv) (GL qs k rs t (V x) (V ny) (I O ((k:Int)-(qs.length:Int))) (k:Int) 0) (.exit 2) (GL qs k os t a b at1 n i))(n10:RQ 115 [H k (pc os)] (L 2 us.length (pc us))):Ar Qq (J' qs k rs t) .norm (J' qs us.length us t):=(C1.seq (G (t:=(Ac 1 (vp qs::(Ac 3 (A9n 2 k (pc rs)::(bR t::(Ac 18 (.dup 5::(Ac 73 []))))))))) Bn 400 [.b true] [1,5,6,25] (T c1 a0)) (B_ (A9m (A9m (A9m (A9m (A9m (A9t (C1.seq (G Bn 400 [.v (Ay (rs.getD (A (I O ((k:Int)-1))) z0)),.r (Ag g),.r (Ag ab),.r (Ax [Ag x,Ag r1]),.r (Ax [Ag y,Ag r2]),.r (D O s),.b true,.r (Ag ny)] [1,5,6,9,11,13,63,64] (T n1 (T (F_ n2 n1) (T n3 (T n4 (T n5 (T n6 (T n7 (T c2 (T n8 a0)))))))))) (C1.seq (C1.block hl9) (G Bn 400 [.r (L 2 us.length (pc us))] [1,5,6] (T n10 a0))))))))))))
theorem Avm(qs:List Rn)(k:Nat)(rs:List Rn)(t:Rn)(os us:List Rn)(a b:Rn)(g ab x y r1 r2 s at1 n i:Int)(c1:A9i ((k:Int)>=(qs.length:Int))=true)(c2:A9i (s<0)=false)(n1:0<=(I O ((k:Int)-1))/\(I O ((k:Int)-1))<(k:Int))(n2:rs.length=k)(n3:RQ 159 [Ay t,Ay (rs.getD (A (I O ((k:Int)-1))) z0)] (Ag g))(n4:RQ 160 [Ay t] (Ag ab))(n5:RQ 158 [Ag ab,Ag g] (Ax [Ag x,Ag r1]))(n6:RQ 158 [Ay (rs.getD (A (I O ((k:Int)-1))) z0),Ag g] (Ax [Ag y,Ag r2]))(n7:RQ 101 [Ay t] (D O s))(hl8:Ar (.loop Lv) (GL qs k rs t (V x) (V y) (I O ((k:Int)-(qs.length:Int))) (k:Int) 0) (.exit 2) (GL qs k os t a b at1 n i))(n9:RQ 115 [H k (pc os)] (L 2 us.length (pc us))):Ar Qq (J' qs k rs t) .norm (J' qs us.length us t):=(C1.seq (G (t:=(Ac 1 (vp qs::(Ac 3 (A9n 2 k (pc rs)::(bR t::(Ac 18 (.dup 5::(Ac 73 []))))))))) Bn 400 [.b true] [1,5,6,25] (T c1 a0)) (B_ (A9m (A9m (A9m (A9m (A9m (A9t (C1.seq (G Bn 400 [.v (Ay (rs.getD (A (I O ((k:Int)-1))) z0)),.r (Ag g),.r (Ag ab),.r (Ax [Ag x,Ag r1]),.r (Ax [Ag y,Ag r2]),.r (D O s),.b false] [1,5,6,9,11,13,63,64] (T n1 (T (F_ n2 n1) (T n3 (T n4 (T n5 (T n6 (T n7 (T c2 a0))))))))) (C1.seq (C1.block hl8) (G Bn 400 [.r (L 2 us.length (pc us))] [1,5,6] (T n9 a0))))))))))))
theorem gK(qs:List Rn)(k:Nat)(rs:List Rn)(t:Rn)(c1:A9i ((k:Int)>=(qs.length:Int))=false):Ar Qq (J' qs k rs t) (.exit 0) (J' qs k rs t):=(A8 (G Bn 400 [.b false] [1,5,6] (T c1 a0)) (by nofun))
theorem Avn(rs ss ps qs us:List Rn)(t:Rn)(k:Nat)(n1:RQ 115 [Y pc rs] (L 2 ps.length (pc ps)))(n2:RQ 115 [Y pc ss] (L 2 qs.length (pc qs)))(n3:0<=(I O ((qs.length:Int)-1))/\(I O ((qs.length:Int)-1))<(qs.length:Int))(hl4:Ar (.loop Qq) (J' qs ps.length ps (qs.getD (A (I O ((qs.length:Int)-1))) z0)) (.exit 0) (J' qs k us t)):RQ 118 [Y pc rs,Y pc ss] (L 2 k (pc us)):=A9g Vu (Ac 4 (A9n 2 k (pc us)::(Ac 94 []))) (A9m (A9m (C1.seq (G Bn 400 [.r (L 2 ps.length (pc ps)),.r (L 2 qs.length (pc qs)),.v (Ay (qs.getD (A (I O ((qs.length:Int)-1))) z0))] [1,5,6] (T n1 (T n2 (T n3 (T (BN n3) a0))))) (C1.seq (C1.block hl4) (G Bn 400 [] [4] a0)))))
def J_(as1:List Rn)(bs:List Rn):Al:=(Ac 5 (A9j (Y pc as1)::(A9j (Y pc bs)::(Ac 13 []))))
theorem gL(as1:List Rn)(bs:List Rn)(us:List Rn)(c1:A9i ((bs.length:Int)>0)=true)(n1:RQ 118 [Y pc as1,Y pc bs] (L 2 us.length (pc us))):Ar Qt (J_ as1 bs) .norm (J_ bs us):=(G Bn 400 [.b true,.r (L 2 us.length (pc us))] [5,6] (T c1 (T n1 a0)))
theorem gM(as1:List Rn)(bs:List Rn)(c1:A9i ((bs.length:Int)>0)=false):Ar Qt (J_ as1 bs) (.exit 0) (J_ as1 bs):=(G Bn 400 [.b false] [5,6] (T c1 a0))
theorem qL(rs ss ps qs as1 bs ts:List Rn)(n1:RQ 115 [Y pc rs] (L 2 ps.length (pc ps)))(n2:RQ 115 [Y pc ss] (L 2 qs.length (pc qs)))(hl3:Ar (.loop Qt) (J_ ps qs) (.exit 0) (J_ as1 bs))(n4:RQ 155 [Y pc as1] (L 2 ts.length (pc ts))):RQ 135 [Y pc rs,Y pc ss] (L 2 ts.length (pc ts)):=A9g Su (Ac 4 (A9n 2 ts.length (pc ts)::(Ac 15 []))) (A9m (C1.seq (G Bn 400 [.r (L 2 ps.length (pc ps)),.r (L 2 qs.length (pc qs))] [5,6] (T n1 (T n2 a0))) (C1.seq (C1.block hl3) (G Bn 400 [.r (L 2 ts.length (pc ts))] [4] (T n4 a0)))))
theorem qM(rs ss ps qs as1 bs:List Rn)(n1:RQ 115 [Y pc rs] (L 2 ps.length (pc ps)))(n2:RQ 115 [Y pc ss] (L 2 qs.length (pc qs)))(hl3:Ar (.loop Qt) (J_ ps qs) (.exit 0) (J_ as1 bs))(n4:RQ 155 [Y pc as1] (Y pc as1)):RQ 135 [Y pc rs,Y pc ss] (Y pc as1):=A9g Su (Ac 4 (A9j (Y pc as1)::(Ac 15 []))) (A9m (C1.seq (G Bn 400 [.r (L 2 ps.length (pc ps)),.r (L 2 qs.length (pc qs))] [5,6] (T n1 (T n2 a0))) (C1.seq (C1.block hl3) (G Bn 400 [.r (Y pc as1)] [4] (T n4 a0)))))
def Ju(qs:List Rn)(k:Nat)(rs:List Rn)(t:Rn)(kq:Nat)(os:List Rn)(j:Int)(l:Rn)(n:Int)(i:Int):Al:=(Ac 1 (A9j (Y pc qs)::(Ac 3 (A9n 2 k (pc rs)::(A9s [F t.1,H t.2.length (W t.2)]::(A9n 2 kq (pc os)::(A9j (D O j)::(A9s [F l.1,H l.2.length (W l.2)]::(Ac 34 (A9j (D O n)::(A9j (D O i)::(Ac 57 []))))))))))))
theorem Acu(qs:List Rn)(k:Nat)(rs:List Rn)(t:Rn)(kq:Nat)(os:List Rn)(j:Int)(l:Rn)(n:Int)(i:Int)(c1:A9i (i<n)=true)(n1:0<=i/\i<(k:Int))(n2:rs.length=k)(n3:RQ 112 [Ay (rs.getD (A i) z0),Ay t] (Ag ((Q (rs.getD (A i) z0))*(Q t)))):Ar Pc (Ju qs k rs t kq os j l n i) .norm (Ju qs k (rs.set (A i) (V ((Q (rs.getD (A i) z0))*(Q t)))) t kq os j l n (I O (i+1))):=(G Bn 400 [.b true,.v (Ay (rs.getD (A i) z0)),.r (Ag ((Q (rs.getD (A i) z0))*(Q t))),.l (pc (rs.set (A i) (V ((Q (rs.getD (A i) z0))*(Q t)))))] [1,5,6,7,8,9,44,45] (T c1 (T n1 (T (F_ n2 n1) (T n3 (T n1 (T (FA (r:=V ((Q (rs.getD (A i) z0))*(Q t))) n2 n1) a0)))))))
theorem Acv(qs:List Rn)(k:Nat)(rs:List Rn)(t:Rn)(kq:Nat)(os:List Rn)(j:Int)(l:Rn)(n:Int)(i:Int)(c1:A9i (i<n)=false):Ar Pc (Ju qs k rs t kq os j l n i) (.exit 2) (Ju qs k rs t kq os j l n i):=(G Bn 400 [.b false] [1,5,6,7,8,9,44,45] (T c1 a0))
def Jv(qs:List Rn)(k:Nat)(rs:List Rn)(t:Rn)(kq:Nat)(os:List Rn)(j:Int)(l:Rn)(n:Int)(i:Int):Al:=(Ac 1 (A9j (Y pc qs)::(Ac 3 (A9n 2 k (pc rs)::(A9s [F t.1,H t.2.length (W t.2)]::(A9n 2 kq (pc os)::(A9j (D O j)::(A9s [F l.1,H l.2.length (W l.2)]::(Ac 49 (A9j (D O n)::(A9j (D O i)::(Ac 42 []))))))))))))
theorem Acw(qs:List Rn)(k:Nat)(rs:List Rn)(t:Rn)(kq:Nat)(os:List Rn)(j:Int)(l:Rn)(n:Int)(i:Int)(c1:A9i (i<n)=true)(n1:0<=i/\i<(kq:Int))(n2:os.length=kq)(n3:RQ 112 [Ay (os.getD (A i) z0),Ay t] (Ag ((Q (os.getD (A i) z0))*(Q t)))):Ar Pd (Jv qs k rs t kq os j l n i) .norm (Jv qs k rs t kq (os.set (A i) (V ((Q (os.getD (A i) z0))*(Q t)))) j l n (I O (i+1))):=(G Bn 400 [.b true,.v (Ay (os.getD (A i) z0)),.r (Ag ((Q (os.getD (A i) z0))*(Q t))),.l (pc (os.set (A i) (V ((Q (os.getD (A i) z0))*(Q t)))))] [1,5,6,7,8,9,59,60] (T c1 (T n1 (T (F_ n2 n1) (T n3 (T n1 (T (FA (r:=V ((Q (os.getD (A i) z0))*(Q t))) n2 n1) a0)))))))
theorem Acx(qs:List Rn)(k:Nat)(rs:List Rn)(t:Rn)(kq:Nat)(os:List Rn)(j:Int)(l:Rn)(n:Int)(i:Int)(c1:A9i (i<n)=false):Ar Pd (Jv qs k rs t kq os j l n i) (.exit 4) (Jv qs k rs t kq os j l n i):=(G Bn 400 [.b false] [1,5,6,7,8,9,59,60] (T c1 a0))
def Jw(qs:List Rn)(k:Nat)(rs:List Rn)(t:Rn)(kq:Nat)(os:List Rn)(j:Int)(l:Rn)(n:Int)(i:Int):Al:=(Ac 1 (A9j (Y pc qs)::(Ac 3 (A9n 2 k (pc rs)::(A9s [F t.1,H t.2.length (W t.2)]::(A9n 2 kq (pc os)::(A9j (D O j)::(A9s [F l.1,H l.2.length (W l.2)]::(Ac 68 (A9j (D O n)::(A9j (D O i)::(Ac 23 []))))))))))))
theorem Acy(qs:List Rn)(k:Nat)(rs:List Rn)(t:Rn)(kq:Nat)(os:List Rn)(j:Int)(l:Rn)(n:Int)(i:Int)(c1:A9i (i<n)=true)(n1:0<=(I O (j+i))/\(I O (j+i))<(k:Int))(n2:rs.length=k)(n3:0<=i/\i<(qs.length:Int))(n4:RQ 112 [Ay l,Ay (qs.getD (A i) z0)] (Ag ((Q l)*(Q (qs.getD (A i) z0)))))(n5:RQ 127 [Ay (rs.getD (A (I O (j+i))) z0),Ag ((Q l)*(Q (qs.getD (A i) z0)))] (Ag ((Q (rs.getD (A (I O (j+i))) z0))-((Q l)*(Q (qs.getD (A i) z0)))))):Ar Pe (Jw qs k rs t kq os j l n i) .norm (Jw qs k (rs.set (A (I O (j+i))) (V ((Q (rs.getD (A (I O (j+i))) z0))-((Q l)*(Q (qs.getD (A i) z0)))))) t kq os j l n (I O (i+1))):=(G Bn 400 [.b true,.v (Ay (rs.getD (A (I O (j+i))) z0)),.v (Ay (qs.getD (A i) z0)),.r (Ag ((Q l)*(Q (qs.getD (A i) z0)))),.r (Ag ((Q (rs.getD (A (I O (j+i))) z0))-((Q l)*(Q (qs.getD (A i) z0))))),.l (pc (rs.set (A (I O (j+i))) (V ((Q (rs.getD (A (I O (j+i))) z0))-((Q l)*(Q (qs.getD (A i) z0)))))))] [1,5,6,7,8,9,78,79] (T c1 (T n1 (T (F_ n2 n1) (T n3 (T (BN n3) (T n4 (T n5 (T n1 (T (FA (r:=V ((Q (rs.getD (A (I O (j+i))) z0))-((Q l)*(Q (qs.getD (A i) z0))))) n2 n1) a0))))))))))
theorem Acz(qs:List Rn)(k:Nat)(rs:List Rn)(t:Rn)(kq:Nat)(os:List Rn)(j:Int)(l:Rn)(n:Int)(i:Int)(c1:A9i (i<n)=false):Ar Pe (Jw qs k rs t kq os j l n i) (.exit 6) (Jw qs k rs t kq os j l n i):=(G Bn 400 [.b false] [1,5,6,7,8,9,78,79] (T c1 a0))
def QL(qs:List Rn)(k:Nat)(rs:List Rn)(t:Rn)(kq:Nat)(os:List Rn)(j:Int):Al:=(Ac 1 (A9j (Y pc qs)::(Ac 3 (A9n 2 k (pc rs)::(A9s [F t.1,H t.2.length (W t.2)]::(A9n 2 kq (pc os)::(A9j (D O j)::(Ac 94 []))))))))
theorem Avo(qs:List Rn)(k:Nat)(rs:List Rn)(t:Rn)(kq:Nat)(os:List Rn)(j:Int)(rs1 rs2 os1:List Rn)(m1 i1 m2 i2 m3 i3:Int)(c1:A9i (j>=0)=true)(n1:0<=(I O ((I O (j+(qs.length:Int)))-1))/\(I O ((I O (j+(qs.length:Int)))-1))<(k:Int))(n2:rs.length=k)(hl3:Ar (.loop Pc) (Ju qs k rs t kq os j (rs.getD (A (I O ((I O (j+(qs.length:Int)))-1))) z0) (k:Int) 0) (.exit 2) (Ju qs k rs1 t kq os j (rs.getD (A (I O ((I O (j+(qs.length:Int)))-1))) z0) m1 i1))(hl4:Ar (.loop Pd) (Jv qs k rs1 t kq os j (rs.getD (A (I O ((I O (j+(qs.length:Int)))-1))) z0) (kq:Int) 0) (.exit 4) (Jv qs k rs1 t kq os1 j (rs.getD (A (I O ((I O (j+(qs.length:Int)))-1))) z0) m2 i2))(n5:0<=j/\j<(kq:Int))(n6:os1.length=kq)(hl7:Ar (.loop Pe) (Jw qs k rs1 t kq (os1.set (A j) (rs.getD (A (I O ((I O (j+(qs.length:Int)))-1))) z0)) j (rs.getD (A (I O ((I O (j+(qs.length:Int)))-1))) z0) (qs.length:Int) 0) (.exit 6) (Jw qs k rs2 t kq (os1.set (A j) (rs.getD (A (I O ((I O (j+(qs.length:Int)))-1))) z0)) j (rs.getD (A (I O ((I O (j+(qs.length:Int)))-1))) z0) m3 i3)):Ar VJ (QL qs k rs t kq os j) .norm (QL qs k rs2 t kq (os1.set (A j) (rs.getD (A (I O ((I O (j+(qs.length:Int)))-1))) z0)) (I O (j-1))):=(C1.seq (G (t:=(Ac 1 (vp qs::(Ac 3 (A9n 2 k (pc rs)::(bR t::(A9n 2 kq (pc os)::(m j::(Ac 94 []))))))))) Bn 400 [.b true] [1,5,6,7,8] (T c1 a0)) (C1.seq (B_ (A9t (C1.seq (G Bn 400 [.v (Ay (rs.getD (A (I O ((I O (j+(qs.length:Int)))-1))) z0))] [1,5,6,7,8,9,44,45] (T n1 (T (F_ n2 n1) a0))) (C1.seq (C1.block hl3) (C1.seq (C1.seq (G Bn 400 [] [1,5,6,7,8,9,59,60] a0) (C1.block hl4)) (A9m (C1.seq (G Bn 400 [.l (pc (os1.set (A j) (rs.getD (A (I O ((I O (j+(qs.length:Int)))-1))) z0)))] [1,5,6,7,8,9,78,79] (T n5 (T (FA (r:=rs.getD (A (I O ((I O (j+(qs.length:Int)))-1))) z0) n6 n5) a0))) (C1.block hl7)))))))) (G Bn 400 [] [1,5,6,7,8] a0)))
theorem Avp(qs:List Rn)(k:Nat)(rs:List Rn)(t:Rn)(kq:Nat)(os:List Rn)(j:Int)(c1:A9i (j>=0)=false):Ar VJ (QL qs k rs t kq os j) (.exit 0) (QL qs k rs t kq os j):=(A8 (G Bn 400 [.b false] [1,5,6,7,8] (T c1 a0)) (by nofun))
theorem Avq(rs qs ps us xs os:List Rn)(t:Rn)(k kq:Nat)(j:Int)(n1:RQ 66 [Y pc rs] (L 2 ps.length (pc ps)))(n2:0<=(I O ((qs.length:Int)-1))/\(I O ((qs.length:Int)-1))<(qs.length:Int))(n3:0<=(I O ((I O ((ps.length:Int)-(qs.length:Int)))+1))/\(I O ((I O ((ps.length:Int)-(qs.length:Int)))+1))<=1048576)(hl4:Ar (.loop VJ) ((Ac 1 (A9j (Y pc qs)::(Ac 3 (A9n 2 ps.length (pc ps)::(A9s [F ((qs.getD (A (I O ((qs.length:Int)-1))) z0).1),H ((qs.getD (A (I O ((qs.length:Int)-1))) z0).2.length) (W (qs.getD (A (I O ((qs.length:Int)-1))) z0).2)]::(A9n 2 (A (I O ((I O ((ps.length:Int)-(qs.length:Int)))+1))) (Cz [F false,H 0 []] (A (I O ((I O ((ps.length:Int)-(qs.length:Int)))+1))))::(A9j (D O (I O ((((A (I O ((I O ((ps.length:Int)-(qs.length:Int)))+1))):Nat):Int)-1)))::(Ac 94 []))))))))) (.exit 0) (QL qs k xs t kq os j))(n5:RQ 115 [H kq (pc os)] (L 2 us.length (pc us))):RQ 156 [Y pc rs,Y pc qs] (L 2 us.length (pc us)):=A9g VK (Ac 4 (A9n 2 us.length (pc us)::(Ac 98 []))) (A9m (A9m (A9m (A9t (C1.seq (G Bn 400 [.r (L 2 ps.length (pc ps)),.v (Ay (qs.getD (A (I O ((qs.length:Int)-1))) z0))] [1,5,6,7,8] (T n1 (T n2 (T (BN n2) (T n3 a0))))) (C1.seq (C1.block hl4) (G Bn 400 [.r (L 2 us.length (pc us))] [4] (T n5 a0))))))))
theorem XJ(rs ps xs:List Rn)(c1:A9i ((xs.length:Int)<2)=true)(n1:RQ 115 [Y pc rs] (L 2 ps.length (pc ps)))(n2:RQ 155 [Y pc ps] (L 2 xs.length (pc xs))):RQ 114 [Y pc rs] (Y pc xs):=A9x (fn:=Iz) Bn rfl 400 rfl [.r (L 2 ps.length (pc ps)),.r (L 2 xs.length (pc xs)),.b true] (T n1 (T n2 (T c1 a0)))
theorem XK(rs ps xs ds gs:List Rn)(c1:A9i ((xs.length:Int)<2)=false)(c2:A9i ((gs.length:Int)<2)=true)(n1:RQ 115 [Y pc rs] (L 2 ps.length (pc ps)))(n2:RQ 155 [Y pc ps] (L 2 xs.length (pc xs)))(n3:RQ 116 [Y pc xs] (L 2 ds.length (pc ds)))(n4:RQ 135 [Y pc xs,Y pc ds] (L 2 gs.length (pc gs))):RQ 114 [Y pc rs] (Y pc xs):=A9x (fn:=Iz) Bn rfl 400 rfl [.r (L 2 ps.length (pc ps)),.r (L 2 xs.length (pc xs)),.b false,.r (L 2 ds.length (pc ds)),.r (L 2 gs.length (pc gs)),.b true] (T n1 (T n2 (T c1 (T n3 (T n4 (T c2 a0))))))
theorem XL(rs ps xs ds gs us:List Rn)(c1:A9i ((xs.length:Int)<2)=false)(c2:A9i ((gs.length:Int)<2)=false)(n1:RQ 115 [Y pc rs] (L 2 ps.length (pc ps)))(n2:RQ 155 [Y pc ps] (L 2 xs.length (pc xs)))(n3:RQ 116 [Y pc xs] (L 2 ds.length (pc ds)))(n4:RQ 135 [Y pc xs,Y pc ds] (L 2 gs.length (pc gs)))(n5:RQ 156 [Y pc xs,Y pc gs] (L 2 us.length (pc us))):RQ 114 [Y pc rs] (L 2 us.length (pc us)):=A9x (fn:=Iz) Bn rfl 400 rfl [.r (L 2 ps.length (pc ps)),.r (L 2 xs.length (pc xs)),.b false,.r (L 2 ds.length (pc ds)),.r (L 2 gs.length (pc gs)),.b false,.r (L 2 us.length (pc us))] (T n1 (T n2 (T c1 (T n3 (T n4 (T c2 (T n5 a0)))))))
theorem XM(rs ps xs ds gs:List Rn)(c1:A9i ((xs.length:Int)<2)=false)(c2:A9i ((gs.length:Int)<2)=true)(n1:RQ 115 [Y pc rs] (L 2 ps.length (pc ps)))(n2:RQ 155 [Y pc ps] (L 2 xs.length (pc xs)))(n3:RQ 116 [Y pc xs] (L 2 ds.length (pc ds)))(n4:RQ 135 [Y pc xs,Y pc ds] (Y pc gs)):RQ 114 [Y pc rs] (Y pc xs):=A9x (fn:=Iz) Bn rfl 400 rfl [.r (L 2 ps.length (pc ps)),.r (L 2 xs.length (pc xs)),.b false,.r (L 2 ds.length (pc ds)),.r (Y pc gs),.b true] (T n1 (T n2 (T c1 (T n3 (T n4 (T c2 a0))))))
theorem XN(rs ps xs ds gs us:List Rn)(c1:A9i ((xs.length:Int)<2)=false)(c2:A9i ((gs.length:Int)<2)=false)(n1:RQ 115 [Y pc rs] (L 2 ps.length (pc ps)))(n2:RQ 155 [Y pc ps] (L 2 xs.length (pc xs)))(n3:RQ 116 [Y pc xs] (L 2 ds.length (pc ds)))(n4:RQ 135 [Y pc xs,Y pc ds] (Y pc gs))(n5:RQ 156 [Y pc xs,Y pc gs] (L 2 us.length (pc us))):RQ 114 [Y pc rs] (L 2 us.length (pc us)):=A9x (fn:=Iz) Bn rfl 400 rfl [.r (L 2 ps.length (pc ps)),.r (L 2 xs.length (pc xs)),.b false,.r (L 2 ds.length (pc ds)),.r (Y pc gs),.b false,.r (L 2 us.length (pc us))] (T n1 (T n2 (T c1 (T n3 (T n4 (T c2 (T n5 a0)))))))
theorem XO(rs ps ds gs:List Rn)(c1:A9i ((ps.length:Int)<2)=false)(c2:A9i ((gs.length:Int)<2)=true)(n1:RQ 115 [Y pc rs] (L 2 ps.length (pc ps)))(n2:RQ 155 [Y pc ps] (Y pc ps))(n3:RQ 116 [Y pc ps] (L 2 ds.length (pc ds)))(n4:RQ 135 [Y pc ps,Y pc ds] (L 2 gs.length (pc gs))):RQ 114 [Y pc rs] (Y pc ps):=A9x (fn:=Iz) Bn rfl 400 rfl [.r (L 2 ps.length (pc ps)),.r (Y pc ps),.b false,.r (L 2 ds.length (pc ds)),.r (L 2 gs.length (pc gs)),.b true] (T n1 (T n2 (T c1 (T n3 (T n4 (T c2 a0))))))
theorem XP(rs ps ds gs us:List Rn)(c1:A9i ((ps.length:Int)<2)=false)(c2:A9i ((gs.length:Int)<2)=false)(n1:RQ 115 [Y pc rs] (L 2 ps.length (pc ps)))(n2:RQ 155 [Y pc ps] (Y pc ps))(n3:RQ 116 [Y pc ps] (L 2 ds.length (pc ds)))(n4:RQ 135 [Y pc ps,Y pc ds] (L 2 gs.length (pc gs)))(n5:RQ 156 [Y pc ps,Y pc gs] (L 2 us.length (pc us))):RQ 114 [Y pc rs] (L 2 us.length (pc us)):=A9x (fn:=Iz) Bn rfl 400 rfl [.r (L 2 ps.length (pc ps)),.r (Y pc ps),.b false,.r (L 2 ds.length (pc ds)),.r (L 2 gs.length (pc gs)),.b false,.r (L 2 us.length (pc us))] (T n1 (T n2 (T c1 (T n3 (T n4 (T c2 (T n5 a0)))))))
theorem XQ(rs ps:List Rn)(c1:A9i ((ps.length:Int)<2)=true)(n1:RQ 115 [Y pc rs] (L 2 ps.length (pc ps)))(n2:RQ 155 [Y pc ps] (Y pc ps)):RQ 114 [Y pc rs] (Y pc ps):=A9x (fn:=Iz) Bn rfl 400 rfl [.r (L 2 ps.length (pc ps)),.r (Y pc ps),.b true] (T n1 (T n2 (T c1 a0)))
theorem XR(rs ps ds gs:List Rn)(c1:A9i ((ps.length:Int)<2)=false)(c2:A9i ((gs.length:Int)<2)=true)(n1:RQ 115 [Y pc rs] (L 2 ps.length (pc ps)))(n2:RQ 155 [Y pc ps] (Y pc ps))(n3:RQ 116 [Y pc ps] (L 2 ds.length (pc ds)))(n4:RQ 135 [Y pc ps,Y pc ds] (Y pc gs)):RQ 114 [Y pc rs] (Y pc ps):=A9x (fn:=Iz) Bn rfl 400 rfl [.r (L 2 ps.length (pc ps)),.r (Y pc ps),.b false,.r (L 2 ds.length (pc ds)),.r (Y pc gs),.b true] (T n1 (T n2 (T c1 (T n3 (T n4 (T c2 a0))))))
theorem XT(rs ps ds gs us:List Rn)(c1:A9i ((ps.length:Int)<2)=false)(c2:A9i ((gs.length:Int)<2)=false)(n1:RQ 115 [Y pc rs] (L 2 ps.length (pc ps)))(n2:RQ 155 [Y pc ps] (Y pc ps))(n3:RQ 116 [Y pc ps] (L 2 ds.length (pc ds)))(n4:RQ 135 [Y pc ps,Y pc ds] (Y pc gs))(n5:RQ 156 [Y pc ps,Y pc gs] (L 2 us.length (pc us))):RQ 114 [Y pc rs] (L 2 us.length (pc us)):=A9x (fn:=Iz) Bn rfl 400 rfl [.r (L 2 ps.length (pc ps)),.r (Y pc ps),.b false,.r (L 2 ds.length (pc ds)),.r (Y pc gs),.b false,.r (L 2 us.length (pc us))] (T n1 (T n2 (T c1 (T n3 (T n4 (T c2 (T n5 a0)))))))
end Go.Proofs.YtajompaehjkgkaaGreat
namespace Go.Ai
open Decidable renaming decide->A9i
open Int renaming add_zero->BE,dvd_add_right->Aho,dvd_mul_right->Sd,dvd_trans->PW,eq_of_mul_eq_mul_left->G8,mul_assoc->AF,mul_ediv_cancel'->IN,mul_eq_zero->Hs,mul_ne_zero->Ba,mul_sub->Fr,mul_zero->AI,natAbs->E,natAbs_dvd->A3g,natAbs_mul->BT,natCast_mul->Dj,ofNat_dvd_left->G3,pow_succ->A2,pow_zero->Da
open List renaming countP_eq_length_filter->HI,eq_nil_of_length_eq_zero->A7,getD_cons_succ->Ks,getD_cons_zero->Jj,getD_eq_getElem?_getD->Z,getElem?_map->CL,length->Bs,length_cons->Bz,length_eq_countP_add_countP->tB,length_pos_iff->Am,length_take->AB,map_congr_left->Gh,mem_cons_of_mem->Bh,mem_cons_self->B4,mem_filter->IQ,mem_map->Ec,mem_of_mem_take->C5,mem_range->LO,nodup_cons->Nn,nodup_iff_pairwise_ne->Xy,range->Aq,take_sublist->A9f
open Nat renaming eq_zero_or_pos->FJ,gcd->I8,le_max_right->Avr,le_mul_of_pos_left->X_,le_mul_of_pos_right->Cf,le_of_dvd->R7,le_of_lt->nB,le_of_not_lt->N7,le_refl->Ap,le_trans->Bx,lt_of_le_of_lt->Dz,lt_pow_self->U7,max->uQ,mul_assoc->EL,mul_le_mul->B2,mul_le_mul_left->AAd,mul_one->GI,mul_zero->bH,pow_add->CN,pow_le_pow_right->B8,pow_pos->C9,pow_succ->FL,strongRecOn->Ul
theorem qN(c:Nat)(hc:1<c):∃ p,1<p/\p∣c/\∀ d,d∣p->d=1\/d=p:=by
 have h:∀ n,∀ m,m<=n->1<m->m∣c->∃ p,1<p/\p∣c/\∀ d,d∣p->d=1\/d=p:=by
  intro n;induction n with
  | zero=>intro m h1 h2;omega
  | succ n ih =>
   intro m h1 h2 h3;by_cases h:∀ d,d∣m->d=1\/d=m
   ·exact⟨m,h2,h3,h⟩
   ·obtain⟨d,hd⟩:=Classical.not_forall.1 h;obtain⟨hd1,hd2⟩:=Classical.not_imp.1 hd;have h5:=R7 (by omega) hd1;have h6:d ≠ 0:=by intro h0;subst h0;have:=Nat.zero_dvd.1 hd1;omega
    exact ih d (by omega) (by omega) (Nat.dvd_trans hd1 h3)
 exact h c c (Ap _) hc (Nat.dvd_refl _)
theorem qO{p:Nat}(hp:∀ d,d∣p->d=1\/d=p){a b:Int}(h:(p:Int)∣a*b):(p:Int)∣a\/(p:Int)∣b:=by
 rcases hp (I8 p a.natAbs) (Nat.gcd_dvd_left _ _) with g | g
 ·right;have h1:p∣a.natAbs*b.natAbs:=by rw[<- BT];exact G3.1 h
  exact G3.2 (Nat.Coprime.dvd_of_dvd_mul_left g h1)
 ·left;have:p∣a.natAbs:=by rw[<- g];exact Nat.gcd_dvd_right _ _
  exact G3.2 this
theorem SR(g:LI)(b:Int)(k:LI)(i:Nat):(BC g (b::k)).getD i 0=b*g.getD i 0+(Dn 1 (BC g k)).getD i 0:=by
 have h:=Dg (p:=BC g (b::k)) (q:=DB (A0 b g) (Dn 1 (BC g k))) (fun x=>by
  rw[AX,BU,Az,Ds,AX];simp only[Aa,A2,Da];grind) i
 rw[h,Dl,AK]
theorem RD{p:Nat}(hp:∀ d,d∣p->d=1\/d=p):∀ (g k:LI),(∀ i,(p:Int)∣(BC g k).getD i 0)->(¬ ∀ i,(p:Int)∣g.getD i 0)->∀ i,(p:Int)∣k.getD i 0
 | [],k,_,h=>absurd (fun i=>by simp) h
 | a::g,k,h,hn=>by
  by_cases ha:(p:Int)∣a
  ·refine RD hp g k (fun i => ?_) (fun h2=>hn fun i => ?_)
   ·have h1:=h (i+1);rw[EO,Cm,if_pos (by omega)] at h1;exact (Aho (PW ha (Sd _ _))).1 h1
   ·cases i with
    | zero=>simpa using ha
    | succ i=>simpa using h2 i
  ·clear hn;induction k with
   | nil=>intro i;simp
   | cons b k ih =>
    have h0:=h 0;rw[EO,Cm,if_neg (by omega),BE] at h0;have hb:(p:Int)∣b:=by
     rcases qO hp h0 with g1 | g1
     ·exact absurd g1 ha
     ·simpa using g1
    have h2:=ih (fun i=>by
     have h1:=h (i+1);rw[SR,Cm,if_pos (by omega)] at h1;exact (Aho (PW hb (Sd _ _))).1 h1)
    intro i;cases i with
    | zero=>simpa using hb
    | succ i=>simpa using h2 i
theorem A8i{g:LI}(hg:AQ g=1):∀ (c:Nat) (k:LI),0<c->(∀ i,(c:Int)∣(BC g k).getD i 0)->∀ i,(c:Int)∣k.getD i 0:=by
 intro c;induction c using Ul with
 | ind c ih =>
  intro k hc h;by_cases h1:c=1
  ·intro i;rw[h1];exact Int.one_dvd _
  ·obtain⟨p,p1,⟨d,hd⟩,p3⟩:=qN c (by omega);have hd0:0<d:=by
    rcases FJ d with g | g
    ·rw[g,bH] at hd;omega
    ·exact g
   have hdc:d<c:=by rw[hd];exact (Nat.lt_mul_iff_one_lt_left hd0).2 p1
   have hpk:=RD p3 g k (fun i=>PW ⟨(d:Int),by rw[hd];push_cast;rfl⟩ (h i)) (fun h2=>by
    have:=(K8 p g).2 h2;rw[hg] at this;have:=R7 (by decide) this;omega)
   have hk:A0 (p:Int) (k.map fun x=>x / (p:Int))=k:=by
    apply K6 (by simp[A0]);intro i;rw[AK];have e:(k.map fun x=>x / (p:Int)).getD i 0=k.getD i 0 / (p:Int):=by
     simp only[Z,CL];cases k[i]? <;> simp
    rw[e];exact IN (hpk i)
   generalize k.map (fun x=>x / (p:Int))=k1 at hk;subst hk;have h3:=ih d hdc k1 hd0 (fun i=>by
    have h2:=h i;have e:(BC g (A0 (p:Int) k1)).getD i 0=(p:Int)*(BC g k1).getD i 0:=by
     rw[<- AK];exact Dg (fun x=>by rw[AX,Az,Az,AX];grind) i
    rw[e,hd,Dj] at h2;exact Int.dvd_of_mul_dvd_mul_left (by omega) h2)
   intro i;rw[AK,hd,Dj];exact Int.mul_dvd_mul_left _ (h3 i)
def OG:LI->Int->LI
 | [],_=>[]
 | _::p,a=>DB p (A0 a (OG p a))
theorem Pu:∀ (p:LI) (a x:Int),Aa p x-Aa p a=(x-a)*Aa (OG p a) x
 | [],a,x=>by simp[OG,Aa]
 | c::p,a,x=>by
  have ih:=Pu p a x;simp only[OG,Aa];rw[BU,Az];grind
theorem W8:∀ (p:LI) (a:Int),(OG p a).length<=p.length-1
 | [],a=>by simp[OG]
 | c::p,a=>by
  have ih:=W8 p a;have:=YA p (A0 a (OG p a));rw[Bc] at this;simp only[OG,Bz];omega
theorem YT(p:LI)(a:Int)(i:Nat):p.getD i 0=(Aa p a::OG p a).getD i 0-a*(OG p a).getD i 0:=by
 have h:=Dg (p:=p) (q:=Ms (Aa p a::OG p a) (A0 a (OG p a))) (fun x=>by
  rw[FB,Az];simp only[Aa];have:=Pu p a x;grind) i
 rw[h,QB,AK]
theorem W9:∀ (n:Nat) (p:LI) (l:LI),p.length<=n->l.Nodup->(∀ x∈l,Aa p x=0)->n<=l.length->∀ i,p.getD i 0=0:=by
 intro n;induction n with
 | zero =>
  intro p l h _ _ _ i;rw[A7 (by omega:p.length=0)];simp
 | succ n ih =>
  intro p l h1 h2 h3 h4 i;cases l with
  | nil=>simp at h4
  | cons a l =>
   have ha:=h3 a B4;have hq:=ih (OG p a) l (by have:=W8 p a;omega) (Nn.1 h2).2 (fun x hx=>by
    have h5:=Pu p a x;rw[ha,h3 x (Bh _ hx)] at h5;rcases Hs.1 (h5.symm.trans (by omega)) with g | g
    ·have hxa:x=a:=by omega
     subst hxa;exact absurd hx (Nn.1 h2).1
    ·exact g) (by simp at h4;omega)
   rw[YT p a i,ha,hq i];cases i with
   | zero=>simp
   | succ i=>simpa using hq i
theorem TS{R:Nat}:∀ (n:Nat) (g:LI) (l:LI) (M:Nat),g.length<=n+1->l.Nodup->l.length=n+1->(∀ x∈l,x.natAbs<=R/\(Aa g x).natAbs<=M)->(∀ x∈l,∀ y∈l,x ≠ y->1<=(x-y).natAbs)->∀ i,(g.getD i 0).natAbs<=M*(2*R+3)^n:=by
 intro n;induction n with
 | zero =>
  intro g l M h1 h2 h3 h4 _ i;cases l with
  | nil=>simp at h3
  | cons a l =>
   have ha:=h4 a B4;cases g with
   | nil=>simp
   | cons c g =>
    have:g=[]:=by simpa using h1
    subst this;simp only[Aa,AI,BE] at ha;rw[Nat.pow_zero,GI];cases i with
    | zero=>simpa using ha.2
    | succ i=>simp
 | succ n ih =>
  intro g l M h1 h2 h3 h4 h6 i;cases l with
  | nil=>simp at h3
  | cons a l =>
   obtain⟨ha1,ha2⟩:=h4 a B4;have hq:=ih (OG g a) l (2*M) (by have:=W8 g a;omega) (Nn.1 h2).2 (by simpa using h3) (fun x hx=>by
    obtain⟨hx1,hx2⟩:=h4 x (Bh _ hx);refine⟨hx1,?_⟩;have h5:=congrArg E (Pu g a x);rw[BT] at h5;have hne:x ≠ a:=by intro e;subst e;exact absurd hx (Nn.1 h2).1
    have h7:1<=(x-a).natAbs:=by omega
    have h8:=X_ (Aa (OG g a) x).natAbs h7;have h9:(Aa g x-Aa g a).natAbs<=2*M:=by omega
    omega) (fun x hx y hy=>h6 x (Bh _ hx) y (Bh _ hy))
   rw[YT g a i];have hX:1<=(2*R+3)^n:=C9 (by omega);have e1:M*(2*R+3)^(n+1)=R*(2*M*(2*R+3)^n)+2*M*(2*R+3)^n+M*(2*R+3)^n:=by rw[FL];grind
   have e2:M*1<=M*(2*R+3)^n:=AAd _ hX;have b1:=hq i;have b2:(a*(OG g a).getD i 0).natAbs<=R*(2*M*(2*R+3)^n):=by rw[BT];exact B2 ha1 b1
   have b3:((Aa g a::OG g a).getD i 0).natAbs<=2*M*(2*R+3)^n+M*(2*R+3)^n:=by
    cases i with
    | zero=>simp only[Jj];omega
    | succ i=>have:=hq i;simp only[Ks];omega
   rw[e1];generalize R*(2*M*(2*R+3)^n)=A at *
   generalize 2*M*(2*R+3)^n=B at *
   generalize M*(2*R+3)^n=C at *
   omega
theorem SS{R B:Nat}:∀ (t:LI) (x:Int),(∀ i,(t.getD i 0).natAbs<=B)->x.natAbs<=R->(Aa t x).natAbs<=B*(R+1)^t.length
 | [],x,_,_=>by simp[Aa]
 | c::t,x,h,hx=>by
  have ih:=SS t x (fun i=>by simpa using h (i+1)) hx;have h0:c.natAbs<=B:=by simpa using h 0
  simp only[Aa,Bz];have h1:(x*Aa t x).natAbs<=R*(B*(R+1)^t.length):=by rw[BT];exact B2 hx ih
  have h2:B*1<=B*(R+1)^t.length:=AAd _ (C9 (by omega));have e:B*(R+1)^(t.length+1)=R*(B*(R+1)^t.length)+B*(R+1)^t.length:=by rw[FL];grind
  rw[e];generalize R*(B*(R+1)^t.length)=X at *
  omega
theorem Ada{t:LI}{n:Nat}(ht:A9l t ≠ [])(hl:t.length<=n+1):∃ l:LI,l.Nodup/\l.length=n+1/\∀ x∈l,x.natAbs<=2*n/\Aa t x ≠ 0:=by
 have hnd:((Aq (2*n+1)).map fun i:Nat=>(i:Int)).Nodup:=by
  rw[Xy,List.pairwise_map];exact (Xy.1 List.nodup_range).imp (fun h=>by omega)
 have hmem:∀ x∈(Aq (2*n+1)).map fun i:Nat=>(i:Int),x.natAbs<=2*n:=by
  intro x hx;obtain⟨i,hi,rfl⟩:=Ec.1 hx;have:=LO.1 hi;omega
 have hlen:((Aq (2*n+1)).map fun i:Nat=>(i:Int)).length=2*n+1:=by simp
 generalize ((Aq (2*n+1)).map fun i:Nat=>(i:Int))=L at *
 have hsum:=tB (fun x=>decide (Aa t x=0)) (l:=L);rw[HI,HI] at hsum;have hA:(L.filter fun x=>decide (Aa t x=0)).length<=n:=by
  apply N7;intro h;apply ht;rw[Dd];exact W9 (n+1) t (L.filter fun x=>decide (Aa t x=0)) hl (hnd.filter _) (fun x hx=>by simpa using (IQ.1 hx).2) (by omega)
 refine⟨(L.filter fun x=>decide ¬ (A9i (Aa t x=0))=true).take (n+1),(hnd.filter _).sublist (A9f _ _),?_,?_⟩
 ·rw[AB];omega
 ·intro x hx;obtain⟨h1,h2⟩:=IQ.1 (C5 hx);exact⟨hmem x h1,by simpa using h2⟩
theorem WA{t g k:LI}{K:Nat}(ht:A9l t ≠ [])(hl:t.length<=9)(hg:g.length<=9)(hK:u K t)(h:∀ x,Aa t x=Aa g x*Aa k x):u (K+3) g:=by
 obtain⟨l,l1,l2,l3⟩:=Ada (n:=8) ht hl;have hb:∀ i,(t.getD i 0).natAbs<=4294967296^K:=fun i=>nB (hK i);have h1:=TS (R:=16) 8 g l (4294967296^K*17^9) hg l1 l2 (fun x hx=>by
  obtain⟨a,b⟩:=l3 x hx;refine⟨a,?_⟩;have h2:=SS (R:=16) t x hb a;have h3:=congrArg E (h x);rw[BT] at h3;have h4:1<=(Aa k x).natAbs:=by
   rcases FJ (Aa k x).natAbs with g | g
   ·rw[g,bH] at h3;omega
   ·exact g
  have h5:=Cf (Aa g x).natAbs h4;have h6:4294967296^K*17^t.length<=4294967296^K*17^9:=AAd _ (B8 (by decide) hl);exact Bx (Bx h5 (Nat.le_of_eq h3.symm)) (Bx h2 h6)) (fun x _ y _ hne=>by omega)
 intro i;have h2:=h1 i;unfold Br;refine Dz h2 ?_;rw[EL,CN];exact Nat.mul_lt_mul_of_pos_left (by decide) (C9 (by decide))
theorem LD{t g k:LI}{c:Int}(hc:c ≠ 0)(hg:AQ g=1)(h:∀ x,c*Aa t x=Aa g x*Aa k x):∃ k',∀ x,Aa t x=Aa g x*Aa k' x:=by
 have h1:=Dg (p:=BC g k) (q:=A0 c t) (fun x=>by rw[AX,Az];exact (h x).symm);have h2:=A8i hg c.natAbs k (by omega) (fun i=>by rw[h1,AK];exact PW (A3g.2 (Int.dvd_refl _)) (Sd _ _));have hk:A0 c (k.map fun x=>x / c)=k:=by
  apply K6 (by simp[A0]);intro i;rw[AK];have e:(k.map fun x=>x / c).getD i 0=k.getD i 0 / c:=by
   simp only[Z,CL];cases k[i]? <;> simp
  rw[e];exact IN (A3g.1 (h2 i))
 refine⟨k.map fun x=>x / c,fun x => ?_⟩;have h3:=h x;rw[<- hk,Az] at h3;apply G8 hc;rw[h3];grind
theorem RE{t g k:LI}{c:Int}{K:Nat}(hc:c ≠ 0)(hg:AQ g=1)(ht:A9l t ≠ [])(hl:t.length<=9)(hgl:g.length<=9)(hK:u K t)(h:∀ x,c*Aa t x=Aa g x*Aa k x):u (K+3) g:=by
 obtain⟨k',hk⟩:=LD hc hg h;exact WA ht hl hgl hK hk
def Dv(g t:LI):Prop:=∃ (c:Int) (k:LI),c ≠ 0/\∀ x,c*Aa t x=Aa g x*Aa k x
theorem Dv.refl(g:LI):Dv g g:=⟨1,[1],by decide,fun x=>by simp [Aa]⟩
theorem Dv.zero(g:LI):Dv g []:=⟨1,[],by decide,fun x=>by simp [Aa]⟩
theorem Dv.trans{a b c:LI}(h1:Dv a b)(h2:Dv b c):Dv a c:=by
 obtain⟨m,k,hm,h⟩:=h1;obtain⟨n,l,hn,g⟩:=h2;refine⟨m*n,BC k l,Ba hm hn,fun x => ?_⟩;have h':=h x;have g':=g x;rw[AX,AF,g'];rw[<- AF,h'];grind
theorem Mw{g s t r:LI}{m:Int}(u v:LI)(hm:m ≠ 0)(h1:Dv g s)(h2:Dv g t)(h:∀ x,m*Aa r x=Aa u x*Aa s x+Aa v x*Aa t x):Dv g r:=by
 obtain⟨c,k,hc,hk⟩:=h1;obtain⟨d,l,hd,hl⟩:=h2;refine⟨c*d*m,DB (A0 d (BC u k)) (A0 c (BC v l)),Ba (Ba hc hd) hm,fun x => ?_⟩;rw[BU,Az,Az,AX,AX];have a:=hk x;have b:=hl x;have e:=h x;rw[AF,e];generalize Aa s x=s at *
 generalize Aa t x=t at *
 generalize Aa g x=g at *
 generalize Aa k x=k at *
 generalize Aa l x=l at *
 generalize Aa u x=u at *
 generalize Aa v x=v at *
 have e1:c*d*(u*s+v*t)=d*u*(c*s)+c*v*(d*t):=by grind
 rw[e1,a,b];grind
theorem Dv.scaled{g s r:LI}{m n:Int}(hm:m ≠ 0)(h1:Dv g s)(h:∀ x,m*Aa r x=n*Aa s x):Dv g r :=
 Mw [n] [] hm h1 h1 fun x=>by rw[h x];simp[Aa]
theorem Dv.left{g f t:LI}{m n:Int}(_:m ≠ 0)(hn:n ≠ 0)(h1:Dv g t)(h:∀ x,m*Aa f x=n*Aa g x):Dv f t:=by
 obtain⟨c,k,hc,hk⟩:=h1;refine⟨n*c,A0 m k,Ba hn hc,fun x => ?_⟩;have a:=hk x;have b:=h x;rw[Az];have e1:n*c*Aa t x=n*(c*Aa t x):=by grind
 rw[e1,a];have e2:n*(Aa g x*Aa k x)=(n*Aa g x)*Aa k x:=by grind
 rw[e2,<- b];grind
theorem XU{g s:LI}(t:LI)(h:Dv g s){r:LI}(hr:∀ x,Aa r x=Aa s x*Aa t x):Dv g r :=
 Mw (m:=1) t [] (by decide) h h fun x=>by rw[hr x];simp[Aa];grind
theorem C7{p:LI}(h:BZ p)(h0:p ≠ []):A9l p ≠ []:=by rw [h];exact h0
theorem KY{p q:LI}(hp:A9l p ≠ [])(hq:A9l q ≠ []):(A9l (BC p q)).length=(A9l p).length+(A9l q).length-1:=by
 have e:A9l (BC p q)=A9l (BC (A9l p) (A9l q)):=Gv fun x=>by rw[AX,AX,Ei,Ei]
 rw[e];have lp:=H_ p;have lq:=H_ q;generalize A9l p=P at *
 generalize A9l q=Q at *
 have h1:=Am.2 hp;have h2:=Am.2 hq;obtain⟨t1,t2⟩:=Pt P Q hp hq;have t3:(BC P Q).getD (P.length+Q.length-2) 0 ≠ 0:=by rw[t1];exact Ba (E1 lp hp) (E1 lq hq)
 rw[Wq];have a1:¬ (BC P Q).length<=P.length+Q.length-2:=fun h=>t3 (B0 h);have a2:¬ P.length+Q.length-1<(BC P Q).length:=fun h=>by
  have hne:BC P Q ≠ []:=by intro h0;rw[h0] at h;simp at h
  exact E1 (show BZ (BC P Q) from Wq P Q) hne (t2 _ (by omega))
 omega
theorem No{p q:LI}(hp:A9l p ≠ [])(h:∀ x,Aa p x*Aa q x=0):∀ x,Aa q x=0:=by
 intro x;by_cases hq:A9l q=[]
 ·exact DM hq x
 ·have h1:=KY hp hq;have h2:A9l (BC p q)=A9l []:=Gv fun x=>by rw[AX,h x];rfl
  rw[h2] at h1;have:=Am.2 hp;have:=Am.2 hq;have h0:(A9l []).length=0:=rfl;rw[h0] at h1;omega
theorem WB{p:LI}(hp:A9l p ≠ [])(q r:LI)(h:∀ x,Aa p x*Aa q x=Aa p x*Aa r x):∀ x,Aa q x=Aa r x:=by
 intro x;have:=No (q:=Ms q r) hp (fun x=>by rw[FB,Fr,h x];omega) x;rw[FB] at this;omega
theorem Dv.length{g t:LI}(h:Dv g t)(ht:A9l t ≠ []):(A9l g).length<=(A9l t).length/\A9l g ≠ []:=by
 obtain⟨c,k,hc,hk⟩:=h;have e:A9l (A0 c t)=A9l (BC g k):=Gv fun x=>by rw[Az,AX];exact hk x
 rw[JA hc] at e;have e2:=congrArg Bs e;rw[Bc] at e2;have ht1:=Am.2 ht;by_cases hg:A9l g=[]
 ·have:A9l (BC g k)=A9l []:=Gv fun x=>by rw[AX,DM hg];simp[Aa]
  have h0:(A9l []).length=0:=rfl;rw[this,h0] at e2;omega
 ·by_cases hk0:A9l k=[]
  ·have:A9l (BC g k)=A9l []:=Gv fun x=>by rw[AX,DM hk0];simp[Aa]
   have h0:(A9l []).length=0:=rfl;rw[this,h0] at e2;omega
  ·rw[KY hg hk0] at e2;have:=Am.2 hk0;exact⟨by omega,hg⟩
def Fk(g s t:LI):Prop:=Dv g s/\Dv g t/\∃ (c:Int) (u v:LI),c ≠ 0/\∀ x,c*Aa g x=Aa u x*Aa s x+Aa v x*Aa t x
theorem Fk.comm{g s t:LI}(h:Fk g s t):Fk g t s:=by
 obtain⟨a,b,c,u,v,hc,h⟩:=h;exact⟨b,a,c,v,u,hc,fun x=>by rw[h x];omega⟩
theorem Fk.dv{g s t f:LI}(h:Fk g s t)(h1:Dv f s)(h2:Dv f t):Dv f g:=by
 obtain⟨_,_,c,u,v,hc,h⟩:=h;exact Mw u v hc h1 h2 h
theorem WC(s:LI):Fk s s []:=⟨Dv.refl s,Dv.zero s,1,[1],[],by decide,fun x=>by simp [Aa]⟩
theorem Fk.length{f g s t:LI}(h1:Fk f s t)(h2:Fk g s t)(hf:A9l f ≠ []):(A9l f).length=(A9l g).length:=by
 have a:=(h1.dv h2.1 h2.2.1).length hf;have b:=(h2.dv h1.1 h1.2.1).length a.2;omega
theorem Fk.step{g r d e q:LI}{a m:Int}(ha:a ≠ 0)(hm:m ≠ 0)(hr:∀ x,a*Aa r x=Aa q x*Aa d x+m*Aa e x)(h:Fk g d e):Fk g r d:=by
 obtain⟨h1,h2,c,u,v,hc,h⟩:=h;refine⟨Mw q [m] ha h1 h2 (fun x=>by rw[hr x];simp[Aa]),h1,c*m,A0 a v,Ms (A0 m u) (BC v q),Ba hc hm,fun x => ?_⟩;have e1:=hr x;have e2:=h x;rw[Az,FB,Az,AX];generalize Aa g x=g at *
 generalize Aa d x=d at *
 generalize Aa e x=e at *
 generalize Aa r x=r at *
 generalize Aa q x=q at *
 generalize Aa u x=u at *
 generalize Aa v x=v at *
 have e3:c*m*g=m*(c*g):=by grind
 rw[e3,e2];have e4:a*v*r=v*(a*r):=by grind
 rw[e4,e1];grind
theorem Fk.scaled{g s t s' t':LI}{m n k l:Int}(hm:m ≠ 0)(hn:n ≠ 0)(hk:k ≠ 0)(hl:l ≠ 0)(h1:∀ x,m*Aa s' x=n*Aa s x)(h2:∀ x,k*Aa t' x=l*Aa t x)(h:Fk g s t):Fk g s' t':=by
 obtain⟨a,b,c,u,v,hc,h⟩:=h;refine⟨a.scaled hm h1,b.scaled hk h2,c*(n*l),A0 (m*l) u,A0 (k*n) v,Ba hc (Ba hn hl),fun x => ?_⟩;have e1:=h1 x;have e2:=h2 x;have e3:=h x;rw[Az,Az];generalize Aa g x=g at *
 generalize Aa s x=s at *
 generalize Aa t x=t at *
 generalize Aa s' x=s' at *
 generalize Aa t' x=t' at *
 generalize Aa u x=u at *
 generalize Aa v x=v at *
 have e4:c*(n*l)*g=n*l*(c*g):=by grind
 rw[e4,e3];have e5:m*l*u*s'=l*u*(m*s'):=by grind
 have e6:k*n*v*t'=n*v*(k*t'):=by grind
 rw[e5,e6,e1,e2];grind
theorem Fk.gscaled{g g' s t:LI}{m n:Int}(hm:m ≠ 0)(hn:n ≠ 0)(h1:∀ x,m*Aa g' x=n*Aa g x)(h:Fk g s t):Fk g' s t:=by
 obtain⟨a,b,c,u,v,hc,h⟩:=h;refine⟨a.left hm hn h1,b.left hm hn h1,c*m,A0 n u,A0 n v,Ba hc hm,fun x => ?_⟩;have e1:=h1 x;have e2:=h x;rw[Az,Az,AF,e1];have e3:c*(n*Aa g x)=n*(c*Aa g x):=by grind
 rw[e3,e2];grind
theorem Ic(p:LI):∃ m:Int,m ≠ 0/\∀ x,Aa p x=m*Aa (prim p) x:=by
 by_cases h:A9l p=[]
 ·refine⟨1,by decide,fun x => ?_⟩;rw[DM h,DG.2 (Dd.1 h)];rfl
 ·have:=Jb h;refine⟨(AQ p:Int),by omega,fun x => ?_⟩;rw[<- Az,L9,Ei]
theorem gN{r d:LI}(hl:d.length<=r.length)(ht:X d ≠ 0):∃ (a m:Int) (q:LI),a ≠ 0/\m ≠ 0/\∀ x,a*Aa r x=Aa q x*Aa d x+m*Aa (DH r d) x:=by
 obtain⟨m,hm,h⟩:=Ic (CD r d ((X d).natAbs:Int) (sg (X d)*X r) r.length);refine⟨((X d).natAbs:Int),m,Dn (r.length-d.length) [sg (X d)*X r],by omega,hm,fun x => ?_⟩;have h1:=h x;rw[QK hl] at h1;have e:Aa (DH r d) x=Aa (prim (CD r d ((X d).natAbs:Int) (sg (X d)*X r) r.length)) x:=rfl;rw[e,<- h1,Ds];simp only[Aa];grind
theorem gO{d:LI}(ht:X d ≠ 0):∀ (f:Nat) (r:LI),∃ (a m:Int) (q:LI),a ≠ 0/\m ≠ 0/\∀ x,a*Aa r x=Aa q x*Aa d x+m*Aa (Ed f r d) x:=by
 intro f;induction f with
 | zero=>intro r;exact⟨1,1,[],by decide,by decide,fun x=>by simp[Aa,Ed]⟩
 | succ f ih =>
  intro r;simp only[Ed];split
  ·rename_i hl;obtain⟨a,m,q,ha,hm,h⟩:=gN hl ht;obtain⟨b,n,s,hb,hn,g⟩:=ih (DH r d);refine⟨b*a,m*n,DB (A0 b q) (A0 m s),Ba hb ha,Ba hm hn,fun x => ?_⟩;have h':=h x;have g':=g x;rw[BU,Az,Az,AF,h'];generalize Aa (Ed f (DH r d) d) x=z at *
   generalize Aa (DH r d) x=y at *
   have e:b*(Aa q x*Aa d x+m*y)=b*(Aa q x*Aa d x)+m*(b*y):=by grind
   rw[e,g'];grind
  ·exact⟨1,1,[],by decide,by decide,fun x=>by simp[Aa]⟩
theorem WD:∀ (f:Nat) (x y:LI),y.length<=f->y.length<=x.length->BZ x->BZ y->Fk (Ia f x y) x y:=by
 intro f;induction f with
 | zero =>
  intro x y h1 _ _ _;have:y=[]:=A7 (by omega);subst this;exact WC x
 | succ f ih =>
  intro x y h1 h2 lx ly;simp only[Ia];split
  ·rename_i h;subst h;exact WC x
  ·rename_i h;have ht:X y ≠ 0:=E1 ly h;obtain⟨r1,r2,_⟩:=SQ h (K:=uQ 1 (y.map E).sum) (fun i=>by
    have h3:(y.getD i 0).natAbs<=(y.map E).sum:=by
     clear ht h h1 h2 ly ih;induction y generalizing i with
     | nil=>simp
     | cons c y ih => 
      cases i with
      | zero=>simp
      | succ i=>have:=ih i;simp at this |-;omega
    unfold Br;have h4:(y.map E).sum<=uQ 1 (y.map E).sum:=Avr _ _;exact Dz (Bx h3 h4) (U7 (by decide))) x.length x (uQ 1 (x.map E).sum) (Ap _) lx (fun i=>by
    have h3:(x.getD i 0).natAbs<=(x.map E).sum:=by
     clear ht h h1 h2 lx ih;induction x generalizing i with
     | nil=>simp
     | cons c y ih => 
      cases i with
      | zero=>simp
      | succ i=>have:=ih i;simp at this |-;omega
    unfold Br;have h4:(x.map E).sum<=uQ 1 (x.map E).sum:=Avr _ _;exact Dz (Bx h3 h4) (U7 (by decide)))
   obtain⟨a,m,q,ha,hm,e⟩:=gO ht x.length x;exact Fk.step ha hm e (ih y (BB x y) (by unfold BB;omega) (by unfold BB;omega) ly r1)
def NC(x y:LI):LI:=if y.length<=x.length then Ia y.length x y else Ia x.length y x
theorem Adb{x y:LI}(lx:BZ x)(ly:BZ y):Fk (NC x y) x y:=by
 unfold NC;split
 ·exact WD _ _ _ (Ap _) (by assumption) lx ly
 ·exact (WD _ _ _ (Ap _) (by omega) ly lx).comm
theorem WE(p:LI):∃ m:Int,m ≠ 0/\∀ x,Aa (AAc p) x=m*Aa p x:=by
 unfold AAc;split
 ·exact⟨-1,by decide,fun x=>by rw[J8];omega⟩
 ·exact⟨1,by decide,fun x=>by omega⟩
theorem Kt(p:LI):(AAc p).length=p.length:=by
 unfold AAc;split
 ·exact DR p
 ·rfl
def B3(s t:LI):LI:=AAc (NC (prim s) (prim t))
theorem Fw(s t:LI):Fk (B3 s t) s t:=by
 have h:=Adb (Cq s) (Cq t);obtain⟨m,hm,h1⟩:=Ic s;obtain⟨n,hn,h2⟩:=Ic t;obtain⟨k,hk,h3⟩:=WE (NC (prim s) (prim t));have h4:=h.scaled (s':=s) (t':=t) (m:=1) (n:=m) (k:=1) (l:=n) (by decide) hm (by decide) hn (fun x=>by rw[h1 x];omega) (fun x=>by rw[h2 x];omega);exact h4.gscaled (m:=1) (n:=k) (by decide) hk (fun x=>by unfold B3;rw[h3 x];omega)
theorem Ie{p:LI}(h:BZ p):BZ (Ci p):=by
 have e:Ci p=A0 (-1) p:=by
  unfold Ci A0;apply Gh;intro x _;omega
 rw[e];exact gD (by decide) h
theorem Np{p:LI}(h:BZ p):BZ (AAc p):=by
 unfold AAc;split
 ·exact Ie h
 ·exact h
theorem LF:∀ (f:Nat) (x y:LI),prim x=x->prim y=y->prim (Ia f x y)=Ia f x y:=by
 intro f;induction f with
 | zero=>intro x y h _;exact h
 | succ f ih =>
  intro x y hx hy;simp only[Ia];split
  ·exact hx
  ·exact ih y _ hy (Io _ _ _ hx)
theorem QM{x y:LI}(hx:prim x=x)(hy:prim y=y):prim (NC x y)=NC x y:=by
 unfold NC;split
 ·exact LF _ _ _ hx hy
 ·exact LF _ _ _ hy hx
theorem WF(p:LI):AQ (Ci p)=AQ p:=by
 have e:Ci p=A0 (-1) p:=by
  unfold Ci A0;apply Gh;intro x _;omega
 rw[e,In];simp
theorem WG(p:LI):AQ (AAc p)=AQ p:=by
 unfold AAc;split
 ·exact WF p
 ·rfl
theorem Ee(s t:LI):BZ (B3 s t):=Np (Cv (QM (Cb s) (Cb t)))
theorem Jx{p:LI}(h:BZ p)(hc:AQ p=1):prim p=p:=by rw [SN hc];exact h
theorem G7{s t:LI}(h:A9l s ≠ []):B3 s t ≠ []:=by
 have:=((Fw s t).1.length h).2;intro h0;rw[h0] at this;exact this rfl
theorem Nq{s t:LI}(h:A9l s ≠ []):AQ (B3 s t)=1:=by
 have h1:=G7 (t:=t) h;unfold B3 at *
 rw[WG];have h2:NC (prim s) (prim t) ≠ []:=by
  intro h0;rw[h0] at h1;exact h1 rfl
 have h3:=QM (Cb s) (Cb t);rw[<- h3];exact KW (by rw[Cv h3];exact h2)
theorem YU{p:LI}(h:BZ p)(h0:p ≠ []):0<X (AAc p):=by
 have h1:=E1 h h0;unfold AAc;split
 ·rename_i hn;unfold X at *
  rw[DR,G_];omega
 ·rename_i hn;unfold X at *;omega
theorem KB{s t:LI}(h:A9l s ≠ []):0<X (B3 s t):=by
 have h1:=G7 (t:=t) h;unfold B3 at *
 refine YU (Cv (QM (Cb s) (Cb t))) ?_;intro h0;rw[h0] at h1;exact h1 rfl
theorem gP{s t:LI}{K:Nat}(h:A9l s ≠ [])(hl:s.length<=9)(hK:u K s):u (K+3) (B3 s t)/\(B3 s t).length<=(A9l s).length:=by
 have hg:=(Fw s t).1;have h1:=(hg.length h).1;have hle:=Ee s t;rw[hle] at h1;obtain⟨c,k,hc,hk⟩:=hg;have:=Bp s;exact⟨RE hc (Nq h) h hl (by omega) hK hk,h1⟩
theorem Avs(y:LI):∃ K,u K y:=⟨(y.map E).sum,fun i=>by
 have h3:(y.getD i 0).natAbs<=(y.map E).sum:=by
  induction y generalizing i with
  | nil=>simp
  | cons c y ih => 
   cases i with
   | zero=>simp
   | succ i=>have:=ih i;simp at this |-;omega
 unfold Br;exact Dz h3 (U7 (by decide))⟩
theorem gQ{x y:LI}(hx:BZ x)(hy0:y ≠ []):BZ (BB x y)/\(BB x y).length<y.length:=by
 obtain⟨K,hK⟩:=Avs y;obtain⟨J,hJ⟩:=Avs x;obtain⟨a,b,_⟩:=SQ hy0 hK x.length x J (Ap _) hx hJ;exact⟨a,b⟩
end Go.Ai
namespace Go.Proofs.YtajompaehjkgkaaGreat
open Go.Ai
set_option maxRecDepth 100000
open Go.Ai.AV renaming fresh->L,sl->H
open Go.IntKind renaming i64->O,wrap->I
open Int renaming gcd->Dh,mul_comm->AA,mul_ediv_cancel'->IN,mul_neg->E5,natAbs_natCast->BO,ofNat_dvd_left->G3,toNat_natCast->R
open List renaming append_nil->PC,drop_length->Kf,eq_nil_of_length_eq_zero->A7,ext_getElem?->Ge,getD_eq_getElem?_getD->Z,getElem?_append_left->AN,getElem?_append_right->AT,getElem?_drop->Bw,getElem?_eq_getElem->Ah,getElem?_map->CL,getElem?_set_ne->FN,getElem?_set_self->Xv,getElem?_take_of_lt->B9,length_append->Bf,length_drop->Es,length_map->N,length_pos_iff->Am,length_set->A_,length_take->AB,set_set->Sb,take_of_length_le->Et
open Nat renaming add_mul->DY,le_mul_of_pos_right->Cf,le_of_dvd->R7,le_refl->Ap,le_trans->Bx,lt_trichotomy->tD,mul_comm->CZ,mul_le_mul_left->AAd,mul_le_mul_right->AE,mul_pos->E9,mul_succ->PA,one_mul->Fe,pow_pos->C9,sub_add_cancel->LA,zero_le->By,zero_mul->Tx
def FC(E rs:List Rn)(i:Nat):List Rn:=E.take i++rs.drop i
theorem Nr(E rs:List Rn):FC E rs 0=rs:=by simp [FC]
theorem Ns{E rs:List Rn}(h:E.length=rs.length):FC E rs rs.length=E:=by
 unfold FC;rw[Kf,PC,Et (by omega)]
theorem H0{E rs:List Rn}(h:E.length=rs.length)(i:Nat):(FC E rs i).length=rs.length:=by
 unfold FC;rw[Bf,AB,Es];omega
theorem Mx{E rs:List Rn}(h:E.length=rs.length){i:Nat}(hi:i<rs.length):(FC E rs i).getD i z0=rs.getD i z0:=by
 unfold FC;rw[Z,Z,AT (by rw[AB];omega),AB,Bw];congr 2;omega
theorem My{E rs:List Rn}(h:E.length=rs.length){i:Nat}(hi:i<rs.length):(FC E rs i).set i (E.getD i z0)=FC E rs (i+1):=by
 have hpi:E[i]? = some (E.getD i z0):=by rw[Z,Ah (by omega)];rfl
 apply Ge;intro t;have hl:=H0 h i;unfold FC at *
 rcases tD t i with g | g | g
 ·rw[FN (by omega),AN (by rw[AB];omega),AN (by rw[AB];omega),B9 g,B9 (by omega)]
 ·subst g;rw[Xv (by omega),AN (by rw[AB];omega),B9 (by omega),hpi]
 ·rw[FN (by omega),AT (by rw[AB];omega),AT (by rw[AB];omega),AB,AB,Bw,Bw];congr 1;omega
theorem Gc(p:LI)(i:Nat):Q ((p.map V).getD i z0)=p.getD i 0:=by rw [<- CO,AJ]
theorem Fa{p:LI}{i:Nat}(h:i<p.length):(p.map V).getD i z0=V (p.getD i 0):=by
 rw[Z,CL,Z,Ah h];rfl
theorem AR{K:Nat}{p:LI}(h:u K p):∀ r∈p.map V,AO K r:=Mr h.mem
theorem YV{rs:List Rn}{i:Nat}{r:Rn}(h:i<rs.length):(rs.set i r).getD i z0=r:=by
 simp[Z,h]
theorem M0{x y:Rn}{J K:Nat}(hx:AO J x)(hy:AO K y)(h:J+K<=1048576):RQ 112 [Ay x,Ay y] (Ag (Q x*Q y)):=SM hx.1 hy.1 (by have:=hx.2;have:=hy.2;omega)
theorem gR{x y:Rn}{J K:Nat}(hx:AO J x)(hy:AO K y)(h:J<1048576)(h2:K<1048576):RQ 127 [Ay x,Ay y] (Ag (Q x-Q y)):=Aad hx.1 hy.1 (by have:=hx.2;omega) (by have:=hy.2;omega)
section
variable {p d:LI} {J Kd:Nat}
theorem WH{a b:Int}{t:Rn}(hp:u J p)(hd:u Kd d)(ha:Br Kd a)(hb:Br J b)(hS:J+Kd+1<1048576)(hl:d.length<=p.length)(hN:p.length<=1048576) :
  Ar (.loop Lv) (GL (d.map V) p.length (p.map V) t (V a) (V b) ((p.length-d.length:Nat):Int) (p.length:Nat) 0) (.exit 2)
   (GL (d.map V) p.length ((CD p d a b p.length).map V) t (V a) (V b) ((p.length-d.length:Nat):Int) (p.length:Nat) (p.length:Nat)):=by
 have hE:((CD p d a b p.length).map V).length=(p.map V).length:=by rw[N,N,El]
 have hpl:(p.map V).length=p.length:=N ..;have h:=C1.up (prog:=AZ) (c:=Lv) (ex := .exit 2) (fin:=GL (d.map V) p.length ((CD p d a b p.length).map V) t (V a) (V b) ((p.length-d.length:Nat):Int) (p.length:Nat) (p.length:Nat))
  (fun i=>GL (d.map V) p.length (FC ((CD p d a b p.length).map V) (p.map V) i) t (V a) (V b) ((p.length-d.length:Nat):Int) (p.length:Nat) (i:Nat)) p.length (by nofun) ?_ ?_ 0 (By _)
 ·rw[Nr] at h;exact h
 ·intro i hi;have ei:I O ((i:Int)+1)=((i+1:Nat):Int):=by rw[Bl (by omega) (by omega)];omega
  have hml:=H0 hE i;have hget:=Mx hE (i:=i) (by omega);have hEi:((CD p d a b p.length).map V).getD i z0=V ((CD p d a b p.length).getD i 0):=Fa (by rw[El];exact hi);have hest:=Gy p d a b p.length i;rw[if_pos hi] at hest;have hset:=My hE (i:=i) (by omega);rw[hEi] at hset;have gp:=Bk (AR hp) i;have ga:=BL ha;have gb:=BL hb;have m:=Gc p i;generalize FC ((CD p d a b p.length).map V) (p.map V) i=M at *
  by_cases hat:p.length-d.length<=i
  ·rw[if_pos hat] at hest;have ea:I O ((i:Int)-((p.length-d.length:Nat):Int))=((i-(p.length-d.length):Nat):Int):=by rw[Bl (by omega) (by omega)];omega
   have gq:=Bk (AR hd) (i-(p.length-d.length));have vq:=Gc d (i-(p.length-d.length));have m1:=M0 gp ga (by omega);have m2:=M0 gb gq (by omega);have f1:Br (J+Kd) (Q ((p.map V).getD i z0)*Q (V a)):=gp.fits.mul (by rw[A9y];exact ha);have f2:Br (J+Kd) (Q (V b)*Q ((d.map V).getD (i-(p.length-d.length)) z0)):=Br.mul (by rw[A9y];exact hb) gq.fits;have m3:=gR (BL f1) (BL f2) (by omega) (by omega);rw[A9y (Q (V b)*Q ((d.map V).getD (i-(p.length-d.length)) z0))] at m3;have k:=Acq (d.map V) p.length M t (V a) (V b) ((p.length-d.length:Nat):Int) (p.length:Nat) (i:Nat) (by simp;omega) (by rw[decide_eq_true_eq];omega) (by omega) (by omega) (by rw[A_];omega) (by rw[ea,N];omega)
    (by rw[R,hget];exact m1) (by rw[ea,R];exact m2) (by
     simp only[ea,R,hget];rw[YV (by omega)];exact m3)
   refine k.to rfl ?_;simp only[ea,ei,R,hget];rw[YV (by omega),Sb,A9y (Q ((p.map V).getD i z0)*Q (V a)),m,vq,A9y,A9y,AA (p.getD i 0) a,<- hest];rw[hset]
  ·rw[if_neg hat] at hest;have m1:=M0 gp ga (by omega);have k:=Acr (d.map V) p.length M t (V a) (V b) ((p.length-d.length:Nat):Int) (p.length:Nat) (i:Nat) (by simp;omega) (by rw[decide_eq_false_iff_not];omega) (by omega) (by omega) (by rw[R,hget];exact m1);refine k.to rfl ?_;simp only[ei,R,hget];rw[m,A9y,AA (p.getD i 0) a,<- hest,hset]
 ·rw[show FC ((CD p d a b p.length).map V) (p.map V) p.length=(CD p d a b p.length).map V by have h:=Ns hE;rw[hpl] at h;exact h];exact Acs (d.map V) p.length _ t _ _ _ _ _ (by simp)
theorem A3h{a b:Int}(h:a ≠ 0):0<Dh a b:=by
 rw[Dh];exact Nat.gcd_pos_of_pos_left _ (by omega)
theorem Adc(hp:u J p)(hd:u Kd d)(hS:J+Kd+1<1048576)(hd0:d ≠ [])(ht:X d ≠ 0)(hl:d.length<=p.length)(hN:p.length<=1048576) :
  Ar Qq (J' (d.map V) p.length (p.map V) (V (X d))) .norm (J' (d.map V) (DH p d).length ((DH p d).map V) (V (X d))):=by
 have hdl:=Am.2 hd0;have e1:I O ((p.length:Int)-1)=((p.length-1:Nat):Int):=by rw[Bl (by omega) (by omega)];omega
 have e2:I O ((p.length:Int)-(((d.map V).length:Nat):Int))=((p.length-d.length:Nat):Int):=by rw[N,Bl (by omega) (by omega)];omega
 have gt:=BL (E8 hd);have gl:=Bk (AR hp) (p.length-1);have f:Q ((p.map V).getD (p.length-1) z0)=X p:=Gc p (p.length-1);have hgp:=A3h (a:=X d) (b:=X p) ht;have hgcd:=YM (na:=(V (X d)).1) (nb:=((p.map V).getD (p.length-1) z0).1) gt.1 gl.1 (by have:=gt.2;omega) (by have:=gl.2;omega);rw[show v (V (X d)).1 (V (X d)).2=X d from A9y _,show v ((p.map V).getD (p.length-1) z0).1 ((p.map V).getD (p.length-1) z0).2=X p from f] at hgcd;have hd1:((Dh (X d) (X p):Nat):Int)∣X d:=Int.gcd_dvd_left ..;have hd2:((Dh (X d) (X p):Nat):Int)∣X p:=Int.gcd_dvd_right ..;have hd3:((Dh (X d) (X p):Nat):Int)∣(((X d).natAbs:Nat):Int):=Int.dvd_natAbs.2 hd1;have hgle:Br Kd ((Dh (X d) (X p):Nat):Int):=by
  have:=E8 hd;unfold Br at *
  rw[BO];have:=R7 (by omega) (G3.1 hd1);omega
 have gg:=BL hgle;have habs:=SL (neg:=(V (X d)).1) gt.1 (by have:=gt.2;omega);rw[show v (V (X d)).1 (V (X d)).2=X d from A9y _] at habs;have gab:=BL (Ps (E8 hd));have q1:=Po (na:=(V (((X d).natAbs:Nat):Int)).1) (nb:=(V ((Dh (X d) (X p):Nat):Int)).1) gab.1 gg.1 (by rw[show v (V ((Dh (X d) (X p):Nat):Int)).1 (V ((Dh (X d) (X p):Nat):Int)).2=(Dh (X d) (X p):Nat) from A9y _];omega) (by have:=gab.2;omega) (by have:=gg.2;omega);rw[show v (V ((Dh (X d) (X p):Nat):Int)).1 (V ((Dh (X d) (X p):Nat):Int)).2=(Dh (X d) (X p):Nat) from A9y _,show v (V (((X d).natAbs:Nat):Int)).1 (V (((X d).natAbs:Nat):Int)).2=((X d).natAbs:Nat) from A9y _] at q1;have q2:=Po (na:=((p.map V).getD (p.length-1) z0).1) (nb:=(V ((Dh (X d) (X p):Nat):Int)).1) gl.1 gg.1 (by rw[show v (V ((Dh (X d) (X p):Nat):Int)).1 (V ((Dh (X d) (X p):Nat):Int)).2=(Dh (X d) (X p):Nat) from A9y _];omega) (by have:=gl.2;omega) (by have:=gg.2;omega);rw[show v (V ((Dh (X d) (X p):Nat):Int)).1 (V ((Dh (X d) (X p):Nat):Int)).2=(Dh (X d) (X p):Nat) from A9y _,show v ((p.map V).getD (p.length-1) z0).1 ((p.map V).getD (p.length-1) z0).2=X p from f] at q2;have hG:(0:Int)<((Dh (X d) (X p):Nat):Int):=by omega
 have x1:=IN hd3;have x2:=IN hd2;rw[LC hG hd3] at q1;rw[LC hG hd2] at q2;have hsg:=Ng (neg:=(V (X d)).1) gt.1 (by have:=gt.2;omega);rw[show v (V (X d)).1 (V (X d)).2=X d from A9y _] at hsg;have fa:Br Kd ((((X d).natAbs:Nat):Int) / ((Dh (X d) (X p):Nat):Int)):=by
  rcases SO (Ps (E8 hd)) (Dh (X d) (X p)) with g | g
  ·exact g
  ·exact absurd hd3 g
 have fb:Br J (X p / ((Dh (X d) (X p):Nat):Int)):=by
  rcases SO (E8 hp) (Dh (X d) (X p)) with g | g
  ·exact g
  ·exact absurd hd2 g
 generalize hGd:((Dh (X d) (X p):Nat):Int)=G at *
 generalize hx:(((X d).natAbs:Nat):Int) / G=x at *
 generalize hy:X p / G=y at *
 have pst:∀ b:Int,G*b=sg (X d)*X p->DH p d=prim (CD p d x b p.length):=by
  intro b hb;have h:=TP (r:=p) (d:=d) (c:=1) (g:=G) (a:=x) (b:=b) (by decide) hG x1 hb;rwa [show A0 1 d=d by unfold A0;simp] at h
 have fin:∀ b:Int,G*b=sg (X d)*X p->Br J b->RQ 115 [H p.length (pc ((CD p d x b p.length).map V))] (L 2 ((DH p d).map V).length (pc ((DH p d).map V))):=by
  intro b hb fb';have hK:=R9 hp hd fa fb' p.length;have h:=Er (rs:=(CD p d x b p.length).map V) (AR hK) (by omega) (by rw[N,El];exact hN);(first|rw[AJ,<- pst b hb,N,El] at h|(rw[AJ,<- pst b hb] at h;unfold Y at h;rw[N,El] at h));rw[N];exact h
 by_cases hneg:X d<0
 ·have hng:=YD (neg:=(V y).1) (xs:=(V y).2) (BR _) (by have:=fb.len;rw[HW];omega);rw[show v (V y).1 (V y).2=y from A9y _] at hng;have hb:G * -y=sg (X d)*X p:=by unfold sg;rw[if_pos hneg,E5,x2];omega
  have hin:=WH (t:=V (X d)) hp hd fa fb.neg hS hl hN;have k:=Avl (d.map V) p.length (p.map V) (V (X d)) _ _ _ _ G _ x y (-y) _ _ (BS (X d)) _ _ _ (by rw[decide_eq_true_eq,N];omega) (by unfold BS;rw[if_pos hneg];rfl) (by rw[e1];omega) (by rw[N]) (by rw[e1,R];exact hgcd) habs q1 (by rw[e1,R];exact q2) hsg hng (by rw[e2];exact hin) (fin (-y) hb fb.neg);(first|rw[N] at k|(unfold Y at k;rw[N] at k));exact k
 ·have hb:G*y=sg (X d)*X p:=by unfold sg;rw[if_neg hneg,x2];omega
  have hin:=WH (t:=V (X d)) hp hd fa fb hS hl hN;have k:=Avm (d.map V) p.length (p.map V) (V (X d)) _ _ _ _ G _ x y _ _ (BS (X d)) _ _ _ (by rw[decide_eq_true_eq,N];omega) (by unfold BS;rw[if_neg hneg];split <;> rfl) (by rw[e1];omega) (by rw[N]) (by rw[e1,R];exact hgcd) habs q1 (by rw[e1,R];exact q2) hsg (by rw[e2];exact hin) (fin y hb fb);(first|rw[N] at k|(unfold Y at k;rw[N] at k));exact k
end
theorem Ade{d:LI}{Kd:Nat}(hd:u Kd d)(hd0:d ≠ [])(ht:X d ≠ 0):∀ (f:Nat) (p:LI) (J:Nat),p.length<=f->u J p->J+(p.length+1-d.length)*(Kd+1)<1048576->p.length<=1048576 ->
  Ar (.loop Qq) (J' (d.map V) p.length (p.map V) (V (X d))) (.exit 0) (J' (d.map V) (Ed f p d).length ((Ed f p d).map V) (V (X d))):=by
 have hdl:=Am.2 hd0;intro f;induction f with
 | zero =>
  intro p J hf _ _ _;exact Ao (gK (d.map V) p.length (p.map V) (V (X d)) (by rw[decide_eq_false_iff_not,N];omega)) (by nofun)
 | succ f ih =>
  intro p J hf hJ hS hN;simp only[Ed];split
  ·rename_i hl;have hplen:=Jt hd0 hl;have e:((DH p d).length+1-d.length)+1<=p.length+1-d.length:=by omega
   have:=AE (Kd+1) e;rw[DY,Fe] at this;have h1:=Adc hJ hd (by
    have h2:1*(Kd+1)<=(p.length+1-d.length)*(Kd+1):=AE _ (by omega);omega) hd0 ht hl hN
   exact C1.loop h1 (ih (DH p d) (J+Kd+1) (by omega) (SP hJ hd) (by omega) (by omega))
  ·rename_i hl;exact Ao (gK (d.map V) p.length (p.map V) (V (X d)) (by rw[decide_eq_false_iff_not,N];omega)) (by nofun)
theorem Ka{rs ss:List Rn}{J K:Nat}(hr:∀ r∈rs,AO J r)(hs:∀ r∈ss,AO K r)(hJ:J<1048576)(hK:K<1048576)(hn:rs.length<=1048576)(hm:ss.length<=1048576)(h0:prim (P ss) ≠ [])(hS:J+((prim (P rs)).length+1-(prim (P ss)).length)*(K+1)<1048576) :
  RQ 118 [Y pc rs,Y pc ss] (L 2 (BB (prim (P rs)) (prim (P ss))).length (pk (BB (prim (P rs)) (prim (P ss))))):=by
 have p1:=Er hr hJ hn;have p2:=Er hs hK hm;have k1:u J (prim (P rs)):=(Jd (CP hr)).prim;have k2:u K (prim (P ss)):=(Jd (CP hs)).prim;have l1:(prim (P rs)).length<=rs.length:=by rw[Ca];have:=Bp (P rs);rwa [A9z] at this
 have l2:(prim (P ss)).length<=ss.length:=by rw[Ca];have:=Bp (P ss);rwa [A9z] at this
 have hl:=Am.2 h0;have ht:X (prim (P ss)) ≠ 0:=E1 (Cq _) h0;have hlp:=Ade k2 h0 ht (prim (P rs)).length (prim (P rs)) J (Ap _) k1 hS (by omega);have e1:I O (((((prim (P ss)).map V).length:Nat):Int)-1)=(((prim (P ss)).length-1:Nat):Int):=by rw[N,Bl (by omega) (by omega)];omega
 have p1':RQ 115 [Y pc rs] (L 2 ((prim (P rs)).map V).length (pc ((prim (P rs)).map V))):=by rw[N];exact p1
 have p2':RQ 115 [Y pc ss] (L 2 ((prim (P ss)).map V).length (pc ((prim (P ss)).map V))):=by rw[N];exact p2
 have k:=Avn rs ss _ _ ((BB (prim (P rs)) (prim (P ss))).map V) (V (X (prim (P ss)))) (BB (prim (P rs)) (prim (P ss))).length p1' p2' (by rw[e1,N];omega) (by
  rw[e1,R,Fa (show (prim (P ss)).length-1<(prim (P ss)).length by omega),N];exact hlp)
 exact k
theorem YW:∀ (f:Nat) (x y:LI) (M:Nat),0<M->y.length<=f->y.length<=x.length->x.length<=1048576->prim x=x->prim y=y->u (M-1) x->u (M-1) y->M*Je x.length y.length<=500000 ->
  ∃ bs,Ar (.loop Qt) (J_ (x.map V) (y.map V)) (.exit 0) (J_ ((Ia f x y).map V) bs):=by
 intro f;induction f with
 | zero =>
  intro x y M _ h1 _ _ _ _ _ _ _;have:y=[]:=A7 (by omega);subst this;exact⟨_,Ao (gM _ _ (by simp)) (by nofun)⟩
 | succ f ih =>
  intro x y M hM h1 h2 h3 px py kx ky hphi;simp only[Ia];split
  ·rename_i h;subst h;exact⟨_,Ao (gM _ _ (by simp)) (by nofun)⟩
  ·rename_i h;have hyl:=Am.2 h;obtain⟨r1,r2,r3⟩:=K9 hM (Cv px) h kx ky h2;have hM':0<M*(x.length-y.length+2):=E9 hM (by omega);have hMle:M<=M*(x.length-y.length+2):=Cf M (by omega);have hbig:M*(x.length-y.length+2)<=500000:=by
    refine Bx (AAd _ ?_) hphi;unfold Je;exact Cf _ (C9 (by decide))
   have hrem:=Ka (rs:=x.map V) (ss:=y.map V) (AR kx) (AR ky) (by omega) (by omega) (by rw[N];exact h3) (by rw[N];omega) (by rw[AJ,py];exact h) (by
    rw[AJ,AJ,px,py,LA hM,show x.length+1-y.length=x.length-y.length+1 by omega,CZ _ M];have:M*(x.length-y.length+2)=M*(x.length-y.length+1)+M:=by rw[<- PA]
    omega)
   rw[AJ,AJ,px,py] at hrem;have hrem':RQ 118 [H (x.map V).length (pc (x.map V)),H (y.map V).length (pc (y.map V))] (L 2 ((BB x y).map V).length (pc ((BB x y).map V))):=by
    have hlm:((BB x y).map V).length=(BB x y).length:=N ..;rw[hlm];exact hrem
   have k:=gL (x.map V) (y.map V) _ (by simp;omega) hrem';obtain⟨bs,hb⟩:=ih y (BB x y) (M*(x.length-y.length+2)) hM' (by omega) (by omega) (by omega) py (Io _ _ _ px) (ky.mono (by omega)) r3 (KA r2 hphi);exact⟨bs,C1.loop k hb⟩
def Nt(f:Nat)(args:List AV)(p:LI):Prop:=RQ f args (L 2 (p.map V).length (pc (p.map V)))\/RQ f args (H (p.map V).length (pc (p.map V)))
theorem RF{p:LI}{K:Nat}(hk:u K p)(hK:K<=1048576)(hN:p.length<=1048576) :
  (X p<0->RQ 155 [H (p.map V).length (pc (p.map V))] (L 2 ((AAc p).map V).length (pc ((AAc p).map V))))/\(¬ X p<0->RQ 155 [H (p.map V).length (pc (p.map V))] (H (p.map V).length (pc (p.map V)))):=by
 have h:=W7 (rs:=p.map V) (fun r hr=>(AR hk r hr).mono hK) (by rw[N];exact hN);rw[AJ] at h;refine⟨fun hn => ?_,h.2⟩;have h1:=h.1 hn;have e:AAc p=Ci p:=by unfold AAc;rw[if_pos hn]
 have hl:((Ci p).map V).length=(p.map V).length:=by rw[N,N,DR]
 rw[e,hl];exact h1
theorem Pv{p:LI}(h:¬ X p<0):AAc p=p:=by unfold AAc;rw [if_neg h]
theorem LG:∀ (f:Nat) (x y:LI) (M:Nat),0<M->y.length<=f->y.length<=x.length->BZ x->BZ y->u (M-1) x->u (M-1) y->u (M*Je x.length y.length-1) (Ia f x y)/\(Ia f x y).length<=x.length:=by
 intro f;induction f with
 | zero =>
  intro x y M hM _ h2 _ _ kx _;refine⟨kx.mono ?_,Ap _⟩;have:M*1<=M*Je x.length y.length:=AAd _ (by unfold Je;exact E9 (by omega) (C9 (by decide)));omega
 | succ f ih =>
  intro x y M hM h1 h2 lx ly kx ky;simp only[Ia];split
  ·refine⟨kx.mono ?_,Ap _⟩;have:M*1<=M*Je x.length y.length:=AAd _ (by unfold Je;exact E9 (by omega) (C9 (by decide)));omega
  ·rename_i h;have hyl:=Am.2 h;obtain⟨r1,r2,r3⟩:=K9 hM lx h kx ky h2;have hM':0<M*(x.length-y.length+2):=E9 hM (by omega);have hMle:M<=M*(x.length-y.length+2):=Cf M (by omega);obtain⟨a,b⟩:=ih y (BB x y) (M*(x.length-y.length+2)) hM' (by omega) (by omega) ly r1 (ky.mono (by omega)) r3;exact⟨a.mono (Nat.sub_le_sub_right (KA r2 (Ap _)) 1),by omega⟩
theorem PX{rs ss:List Rn}{g:LI}{bs:List Rn}{K:Nat}(hr:∀ r∈rs,AO K r)(hs:∀ r∈ss,AO K r)(hK:K<1048576)(hn:rs.length<=1048576)(hm:ss.length<=1048576){Kg:Nat}(hg:u Kg g)(hKg:Kg<=1048576)(hgl:g.length<=1048576)
  (hl:Ar (.loop Qt) (J_ ((prim (P rs)).map V) ((prim (P ss)).map V)) (.exit 0) (J_ (g.map V) bs)) :
  Nt 135 [Y pc rs,Y pc ss] (AAc g):=by
 have p1:=Er hr hK hn;have p2:=Er hs hK hm;have p1':RQ 115 [Y pc rs] (L 2 ((prim (P rs)).map V).length (pc ((prim (P rs)).map V))):=by rw[N];exact p1
 have p2':RQ 115 [Y pc ss] (L 2 ((prim (P ss)).map V).length (pc ((prim (P ss)).map V))):=by rw[N];exact p2
 obtain⟨q1,q2⟩:=RF hg hKg hgl;by_cases h:X g<0
 ·exact .inl (qL rs ss _ _ (g.map V) bs _ p1' p2' hl (q1 h))
 ·rw[Pv h];exact .inr (qM rs ss _ _ (g.map V) bs p1' p2' hl (q2 h))
theorem RG{rs ss:List Rn}{K c:Nat}(hr:∀ r∈rs,AO K r)(hs:∀ r∈ss,AO K r)(hn:rs.length<=c)(hm:ss.length<=c)(hc:c<=1048576)(hS:(K+1)*(2*3^c)<=500000) :
  Nt 135 [Y pc rs,Y pc ss] (AAc (NC (prim (P rs)) (prim (P ss)))):=by
 have h3:0<3^c:=C9 (by decide);have hK:K+1<=500000:=by
  have:(K+1)*1<=(K+1)*(2*3^c):=AAd _ (by omega);omega
 have k1:u K (prim (P rs)):=(Jd (CP hr)).prim;have k2:u K (prim (P ss)):=(Jd (CP hs)).prim;have l1:(prim (P rs)).length<=rs.length:=by rw[Ca];have:=Bp (P rs);rwa [A9z] at this
 have l2:(prim (P ss)).length<=ss.length:=by rw[Ca];have:=Bp (P ss);rwa [A9z] at this
 unfold NC;split
 ·rename_i hl;have hphi:(K+1)*Je (prim (P rs)).length (prim (P ss)).length<=500000:=Bx (AAd _ (OE hl (by omega))) hS;obtain⟨bs,hb⟩:=YW (prim (P ss)).length (prim (P rs)) (prim (P ss)) (K+1) (by omega) (Ap _) hl (by omega) (Cb _) (Cb _) k1 k2 hphi;obtain⟨s1,s2⟩:=LG (prim (P ss)).length (prim (P rs)) (prim (P ss)) (K+1) (by omega) (Ap _) hl (Cq _) (Cq _) k1 k2;exact PX hr hs (by omega) (by omega) (by omega) s1 (by omega) (by omega) hb
 ·rename_i hl;have hphi:(K+1)*Je (prim (P ss)).length (prim (P rs)).length<=500000:=Bx (AAd _ (OE (by omega) (by omega))) hS;obtain⟨bs,hb⟩:=YW (prim (P rs)).length (prim (P ss)) (prim (P rs)) (K+1) (by omega) (Ap _) (by omega) (by omega) (Cb _) (Cb _) k2 k1 hphi;obtain⟨s1,s2⟩:=LG (prim (P rs)).length (prim (P ss)) (prim (P rs)) (K+1) (by omega) (Ap _) (by omega) (Cq _) (Cq _) k2 k1;have hy0:prim (P ss) ≠ []:=by intro h;rw[h] at hl;simp at hl
  have hsw:BB (prim (P rs)) (prim (P ss))=prim (P rs):=by
   unfold BB;cases hx:(prim (P rs)).length with
   | zero=>rfl
   | succ n=>simp only[Ed];rw[if_neg hl]
  have hrem:=Ka (rs:=(prim (P rs)).map V) (ss:=(prim (P ss)).map V) (AR k1) (AR k2) (by omega) (by omega) (by rw[N];omega) (by rw[N];omega) (by rw[AJ,Cb];exact hy0) (by
   rw[AJ,AJ,Cb,Cb,show (prim (P rs)).length+1-(prim (P ss)).length=0 by omega,Tx];omega)
  rw[AJ,AJ,Cb,Cb,hsw] at hrem;have hrem':RQ 118 [H ((prim (P rs)).map V).length (pc ((prim (P rs)).map V)),H ((prim (P ss)).map V).length (pc ((prim (P ss)).map V))] (L 2 ((prim (P rs)).map V).length (pc ((prim (P rs)).map V))):=by
   have hlm:((prim (P rs)).map V).length=(prim (P rs)).length:=N ..;(first|rw[hlm] at hrem |-|(unfold Y at hrem;rw[hlm] at hrem |-));exact hrem
  have k:=gL ((prim (P rs)).map V) ((prim (P ss)).map V) _ (by rw[decide_eq_true_eq,N];omega) hrem';exact PX hr hs (by omega) (by omega) (by omega) s1 (by omega) (by omega) (C1.loop k hb)
end Go.Proofs.YtajompaehjkgkaaGreat
namespace Go.Ai
open Classical renaming byContradiction->A4
open Int renaming add_mul->G4,add_zero->BE,mul_assoc->AF,mul_eq_zero->Hs,mul_ne_zero->Ba,mul_zero->AI,natAbs_natCast->BO,zero_mul->CX
open List renaming eq_nil_of_length_eq_zero->A7,getD_cons_succ->Ks,length->Bs,length_pos_iff->Am,range->Aq,replicate->At
open Nat renaming add_mul->DY,mul_le_mul_left->AAd,one_mul->Fe
open Or renaming inr->PR
theorem YX{p q:LI}(h:∀ x,Aa p x=Aa q x)(x:Int):Aa (As p) x=Aa (As q) x :=
 Gu (fun i=>by rw[Dm,Dm,Dg h]) x
theorem WI(a:Int)(p:LI)(x:Int):Aa (As (a::p)) x=Aa p x+x*Aa (As p) x:=by
 have h:∀ i,(As (a::p)).getD i 0=(DB p (0::As p)).getD i 0:=by
  intro i;rw[Dl,Dm,Ks];cases i with
  | zero=>simp
  | succ i=>rw[Ks,Dm];push_cast;grind
 rw[Gu h x,BU];simp[Aa]
theorem Adf(p q:LI)(x:Int):Aa (As (DB p q)) x=Aa (As p) x+Aa (As q) x:=by
 rw[<- BU];exact Gu (fun i=>by rw[Dl,Dm,Dm,Dm,Dl,G4]) x
theorem Hk(c:Int)(p:LI)(x:Int):Aa (As (A0 c p)) x=c*Aa (As p) x:=by
 rw[<- Az];exact Gu (fun i=>by rw[AK,Dm,Dm,AK,AF]) x
theorem A9h:As []=[]:=rfl
theorem YY(p q:LI)(x:Int):Aa (As (BC p q)) x=Aa (As p) x*Aa q x+Aa p x*Aa (As q) x:=by
 induction p with
 | nil=>simp[BC,A9h,Aa]
 | cons a p ih =>
  simp only[BC];rw[Adf,Hk,WI,WI,ih,AX];simp only[Aa];generalize Aa (As p) x=A at *
  generalize Aa (As q) x=B at *
  grind
theorem Nu{r p q:LI}(h:∀ x,Aa r x=Aa p x*Aa q x)(x:Int):Aa (As r) x=Aa (As p) x*Aa q x+Aa p x*Aa (As q) x:=by
 rw[<- YY];exact YX (fun x=>by rw[h x,AX]) x
theorem RH{p q:LI}{c d:Int}(h:∀ x,c*Aa p x=d*Aa q x)(x:Int):c*Aa (As p) x=d*Aa (As q) x:=by
 rw[<- Hk,<- Hk];exact YX (fun x=>by rw[Az,Az,h x]) x
theorem SU(p:LI):(As p).length<=p.length-1:=by
 unfold As;have:=Bp ((Aq (p.length-1)).map fun j=>p.getD (j+1) 0*((j+1:Nat):Int));simpa using this
theorem WJ{K:Nat}{p:LI}(h:u K p)(hl:p.length<=1048576):u (K+2) (As p):=fun i=>by
 rw[Dm];by_cases hi:i<1048576
 ·refine ((h (i+1)).mul (k:=1) ?_).mono (by omega);unfold Br;rw[BO];omega
 ·rw[B0 (xs:=p) (by omega),CX];exact GZ _
def Hl(h:LI):Nat->LI
 | 0=>[1]
 | k+1=>BC (Hl h k) h
theorem YZ(h:LI):∀ (k:Nat) (x:Int),Aa (As (Hl h k)) x*Aa h x=(k:Int)*Aa (Hl h k) x*Aa (As h) x
 | 0,x=>by simp[Hl,As,Aa,A9l,A9r]
 | k+1,x=>by
  have ih:=YZ h k x;simp only[Hl];rw[YY,AX];push_cast;generalize Aa (As (Hl h k)) x=A at *
  generalize Aa (Hl h k) x=B at *
  generalize Aa (As h) x=C at *
  generalize Aa h x=H at *
  have:(A*H+B*C)*H=(A*H)*H+B*C*H:=by grind
  rw[this,ih];grind
theorem Nv{h:LI}(hh:A9l h ≠ []):∀ k,A9l (Hl h k) ≠ []/\(A9l (Hl h k)).length=k*((A9l h).length-1)+1
 | 0=>by
  have e:A9l (Hl h 0)=[1]:=rfl;rw[e];simp
 | k+1=>by
  obtain⟨a,b⟩:=Nv hh k;have h1:=Am.2 hh;have e:=KY a hh;have e2:(A9l (Hl h (k+1))).length=(k+1)*((A9l h).length-1)+1:=by
   simp only[Hl];rw[e,b,DY,Fe];omega
  refine⟨?_,e2⟩;intro h0;rw[h0] at e2;simp at e2
theorem aJ{a G f h:LI}{c:Int}(ha:A9l a ≠ [])(hG:Fk G a (As a))(hc:c ≠ 0)(hf:∀ x,c*Aa a x=Aa G x*Aa f x)(h1:Dv h f)(h2:Dv h (As f)):(A9l h).length=1:=by
 obtain⟨g1,⟨c2,e,hc2,he⟩,c3,u,v,hc3,hb⟩:=hG;have hG0:A9l G ≠ []:=(g1.length ha).2;have hf0:A9l f ≠ []:=by
  intro h0;have:A9l a=A9l []:=by
   apply Gv;intro x;have h3:=hf x;rw[DM h0,AI] at h3;rcases Hs.1 h3 with g | g
   ·exact absurd g hc
   ·exact g
  exact ha this
 have hh0:A9l h ≠ []:=(h1.length hf0).2;have hC:∀ x,c*c2*c3=c2*Aa u x*Aa f x+c*Aa v x*Aa e x:=by
  have h3:=WB hG0 [c*c2*c3] (DB (A0 c2 (BC u f)) (A0 c (BC v e))) (fun x=>by
   have a1:=hf x;have a2:=he x;have a3:=hb x;rw[BU,Az,Az,AX,AX];simp only[Aa];generalize Aa G x=G at *
   generalize Aa f x=f at *
   generalize Aa e x=e at *
   generalize Aa u x=u at *
   generalize Aa v x=v at *
   generalize Aa (As a) x=a' at *
   generalize Aa a x=a at *
   have e1:G*(c*c2*c3+x*0)=c*c2*(c3*G):=by grind
   rw[e1,a3];have e2:c*c2*(u*a+v*a')=c2*u*(c*a)+c*v*(c2*a'):=by grind
   rw[e2,a1,a2];grind)
  intro x;have h4:=h3 x;rw[BU,Az,Az,AX,AX] at h4;simp only[Aa,AI,BE] at h4;grind
 have hd:∀ x,c*(Aa G x*Aa e x)=c2*(Aa (As G) x*Aa f x+Aa G x*Aa (As f) x):=by
  intro x;have a1:=Nu (r:=A0 c a) (p:=G) (q:=f) (fun x=>by rw[Az];exact hf x) x;rw[Hk] at a1;have a2:=he x;rw[<- a1,<- a2];grind
 obtain⟨c4,t,hc4,ht⟩:=h1;obtain⟨c5,w,hc5,hw⟩:=h2;have hft:∀ x,c4*Aa (As f) x=Aa (As h) x*Aa t x+Aa h x*Aa (As t) x:=by
  intro x;have a1:=Nu (r:=A0 c4 f) (p:=h) (q:=t) (fun x=>by rw[Az];exact ht x) x;rw[Hk] at a1;exact a1
 have hk:∀ k,Dv (Hl h k) G:=by
  intro k;induction k with
  | zero=>exact⟨1,G,by decide,fun x=>by simp[Hl,Aa]⟩
  | succ k ih =>
   obtain⟨ck,s,hck,hs⟩:=ih;obtain⟨p1,_⟩:=Nv hh0 k;have hGs:∀ x,ck*Aa (As G) x=Aa (As (Hl h k)) x*Aa s x+Aa (Hl h k) x*Aa (As s) x:=by
    intro x;have a1:=Nu (r:=A0 ck G) (p:=Hl h k) (q:=s) (fun x=>by rw[Az];exact hs x) x;rw[Hk] at a1;exact a1
   have hes:∀ x,c4*c5*c*(Aa e x*Aa s x)=Aa h x*(c2*((k:Int)*Aa s x*(c4*Aa w x-c5*Aa (As t) x)+c5*(Aa (As s) x*Aa t x)+c4*(Aa s x*Aa w x))):=by
    have h3:=WB (p:=BC (Hl h k) h) (by
      intro h0;have:=KY p1 hh0;rw[h0] at this;have:=Am.2 p1;have:=Am.2 hh0;simp at *
      omega) (A0 (c4*c5*c) (BC e s)) (BC h (A0 c2 (DB (DB (BC (A0 (k:Int) s) (Ms (A0 c4 w) (A0 c5 (As t)))) (A0 c5 (BC (As s) t))) (A0 c4 (BC s w))))) (fun x=>by
     have a1:=hd x;have a2:=ht x;have a3:=hw x;have a4:=hft x;have a5:=hs x;have a6:=hGs x;have a7:=YZ h k x;simp only[AX,Az,BU,FB];generalize Aa (As (Hl h k)) x=P' at *
     generalize Aa (As G) x=G' at *
     generalize Aa (As f) x=f' at *
     generalize Aa (As h) x=h' at *
     generalize Aa (As t) x=t' at *
     generalize Aa (As s) x=s' at *
     generalize Aa (Hl h k) x=P at *
     generalize Aa G x=G at *
     generalize Aa f x=f at *
     generalize Aa e x=e at *
     generalize Aa h x=h at *
     generalize Aa t x=t at *
     generalize Aa w x=w at *
     generalize Aa s x=s at *
     have b1:P*h*(c4*c5*c*(e*s))=c4*c5*h*(c*((P*s)*e)):=by grind
     rw[b1,<- a5];have b2:c4*c5*h*(c*(ck*G*e))=c4*c5*h*ck*(c*(G*e)):=by grind
     rw[b2,a1];have b3:c4*c5*h*ck*(c2*(G'*f+G*f'))=c5*c2*((ck*G')*h*(c4*f)+(ck*G)*h*(c4*f')):=by grind
     rw[b3,a6,a5,a2];have b4:(P'*s+P*s')*h*(h*t)=(P'*h)*s*h*t+P*s'*h*h*t:=by grind
     rw[b4,a7];have b5:(k:Int)*P*h'*s*h*t=(k:Int)*P*s*h*(h'*t):=by grind
     have b6:h'*t=c4*f'-h*t':=by omega
     rw[b5,b6];have b7:c5*c2*((k:Int)*P*s*h*(c4*f'-h*t')+P*s'*h*h*t+P*s*h*(c4*f'))=c2*((k:Int)*P*s*h*(c4*(c5*f')-c5*(h*t'))+c5*(P*s'*h*h*t)+P*s*h*(c4*(c5*f'))):=by grind
     rw[b7,a3];grind)
    intro x;have h4:=h3 x;simp only[AX,Az,BU,FB] at h4;exact h4
   have d1:Dv h (BC e s):=⟨c4*c5*c,A0 c2 (DB (DB (BC (A0 (k:Int) s) (Ms (A0 c4 w) (A0 c5 (As t)))) (A0 c5 (BC (As s) t))) (A0 c4 (BC s w))),Ba (Ba hc4 hc5) hc,fun x=>by
    simp only[AX,Az,BU,FB];exact hes x⟩
   have d2:Dv h (BC f s):=XU s ⟨c4,t,hc4,ht⟩ (fun x=>AX _ _ x);have d3:Dv h s:=Mw (m:=c*c2*c3) (A0 c2 u) (A0 c v) (Ba (Ba hc hc2) hc3) d2 d1 (fun x=>by
    rw[hC x];simp only[AX,Az];grind)
   obtain⟨c6,s2,hc6,hs2⟩:=d3;refine⟨c6*ck,s2,Ba hc6 hck,fun x => ?_⟩;have a1:=hs x;have a2:=hs2 x;simp only[Hl];rw[AX,AF,a1];have b1:c6*(Aa (Hl h k) x*Aa s x)=Aa (Hl h k) x*(c6*Aa s x):=by grind
   rw[b1,a2];grind
 have hh1:=Am.2 hh0;apply A4;intro hn;have h3:=((hk (A9l G).length).length hG0).1;rw[(Nv hh0 _).2] at h3;have:(A9l G).length*1<=(A9l G).length*((A9l h).length-1):=AAd _ (by omega);omega
def A9k(p:LI):LI :=
 if (AAc (prim p)).length<2\/(B3 (AAc (prim p)) (As (AAc (prim p)))).length<2 then AAc (prim p)
 else prim (Hj (B3 (AAc (prim p)) (As (AAc (prim p)))) ((AAc (prim p)).length-(B3 (AAc (prim p)) (As (AAc (prim p)))).length+1) (AAc (prim p)) (At ((AAc (prim p)).length-(B3 (AAc (prim p)) (As (AAc (prim p)))).length+1) 0))
theorem M1{g:LI}(h:g.length=1):∃ c,g=[c]:=by
 match g,h with
 | [c],_=>exact⟨c,rfl⟩
theorem gS{a:LI}(la:BZ a)(h0:a ≠ [])(ca:AQ a=1)(ta:0<X a)(f:LI)
  (hf:f=if a.length<2\/(B3 a (As a)).length<2 then a else prim (Hj (B3 a (As a)) (a.length-(B3 a (As a)).length+1) a (At (a.length-(B3 a (As a)).length+1) 0))) :
  BZ f/\AQ f=1/\0<X f/\f ≠ []/\f.length=a.length-(B3 a (As a)).length+1/\∃ c d:Int,c ≠ 0/\d ≠ 0/\∀ x,c*Aa a x=d*(Aa (B3 a (As a)) x*Aa f x):=by
 have hta:A9l a ≠ []:=C7 la h0;have hG:=Fw a (As a);have lG:=Ee a (As a);have nG:=G7 (t:=As a) hta;have tG:=KB (t:=As a) hta;have hGl:=(hG.1.length hta).1;rw[lG,la] at hGl;have hal:=Am.2 h0;have hgl:=Am.2 nG;generalize B3 a (As a)=G at *
 by_cases hs:a.length<2\/G.length<2
 ·rw[if_pos hs] at hf;subst hf;have hG1:G.length=1:=by omega
  obtain⟨c,rfl⟩:=M1 hG1;refine⟨la,ca,ta,h0,by omega,c,1,?_,by decide,fun x=>by simp[Aa]⟩;have:X [c]=c:=rfl;omega
 ·rw[if_neg hs] at hf;obtain⟨c',r',c1,r1,r2,r3⟩:=TR (p:=a) (q:=G) nG tG hGl;generalize Hj G (a.length-G.length+1) a (At (a.length-G.length+1) 0)=o at *
  have to:=YO c1 ta nG tG hGl r2 r3 r1;have hr0:A9l r'=[]:=by
   apply A4;intro hn;have hd:Dv G r':=Mw (m:=1) [c'] (Ci o) (by decide) hG.1 (Dv.refl G) (fun x=>by
    have:=r3 x;rw[J8];simp only[Aa];grind)
   have h1:=(hd.length hn).1;rw[lG] at h1;have hl1:=Am.2 hn;have h2:=E1 (H_ r') hn;rw[Dk,r1 _ (by omega)] at h2;exact h2 rfl
  have ho0:o ≠ []:=by intro h1;rw[h1] at r2;simp at r2
  have lo:BZ o:=R8 (PR (by unfold X at to;omega));obtain⟨m,hm,hpe⟩:=Ic o;subst hf;refine⟨Cq o,KW (C7 lo ho0),PU to,?_,by rw[Ca,lo,r2],c',m,by omega,hm,fun x => ?_⟩
  ·intro h1;rw[DG,<- Dd,lo] at h1;exact ho0 h1
  ·rw[r3 x,DM hr0,hpe x];grind
theorem RI{p:LI}(hp:A9l p ≠ []):BZ (AAc (prim p))/\AAc (prim p) ≠ []/\AQ (AAc (prim p))=1/\0<X (AAc (prim p))/\(AAc (prim p)).length=(A9l p).length/\∃ m:Int,m ≠ 0/\∃ n:Int,n ≠ 0/\∀ x,n*Aa p x=m*Aa (AAc (prim p)) x:=by
 have h1:prim p ≠ []:=by intro h;rw[DG,<- Dd] at h;exact hp h
 obtain⟨m,hm,h2⟩:=Ic p;obtain⟨n,hn,h3⟩:=WE (prim p);refine⟨Np (Cq p),?_,by rw[WG];exact KW hp,YU (Cq p) h1,by rw[Kt,Ca],m,hm,n,hn,fun x=>by rw[h2 x,h3 x];grind⟩;intro h;have:=congrArg Bs h;rw[Kt] at this;exact h1 (A7 this)
theorem Uw{f:LI}(lf:BZ f)(cf:AQ f=1)(tf:0<X f):AAc (prim f)=f:=by
 rw[Jx lf cf];unfold AAc;rw[if_neg (by omega)]
theorem Cu{p:LI}(hp:A9l p ≠ []):BZ (A9k p)/\AQ (A9k p)=1/\0<X (A9k p)/\A9k p ≠ []/\Dv (A9k p) p /\
  (A9k p).length+(B3 (AAc (prim p)) (As (AAc (prim p)))).length=(A9l p).length+1/\Fk (B3 (AAc (prim p)) (As (AAc (prim p)))) p (As p)/\(B3 (A9k p) (As (A9k p))).length=1:=by
 obtain⟨la,h0,ca,ta,hl,m,hm,n,hn,hpe⟩:=RI hp;obtain⟨lf,cf,tf,f0,fl,c,d,hc,hd,hcd⟩:=gS la h0 ca ta (A9k p) rfl;have hta:A9l (AAc (prim p)) ≠ []:=C7 la h0;have hG:=Fw (AAc (prim p)) (As (AAc (prim p)));have lG:=Ee (AAc (prim p)) (As (AAc (prim p)));have nG:=G7 (t:=As (AAc (prim p))) hta;have hGl:=(hG.1.length hta).1;rw[lG,la] at hGl;have hder:∀ x,n*Aa (As p) x=m*Aa (As (AAc (prim p))) x:=RH hpe;generalize AAc (prim p)=a at *
 generalize B3 a (As a)=G at *
 generalize A9k p=f at *
 have hal:=Am.2 h0;have hgl:=Am.2 nG;refine⟨lf,cf,tf,f0,?_,by omega,?_,?_⟩
 ·have h1:Dv f a:=⟨c,A0 d G,hc,fun x=>by rw[hcd x,Az];grind⟩;exact h1.scaled hn hpe
 ·exact hG.scaled hn hm hn hm hpe hder
 ·have hK:=Fw f (As f);have nK:=G7 (t:=As f) (C7 lf f0);have lK:=Ee f (As f);have h1:=aJ (h:=B3 f (As f)) (f:=A0 d f) (c:=c) hta hG hc (fun x=>by rw[hcd x,Az];grind)
   (hK.1.scaled (m:=1) (n:=d) (by decide) (fun x=>by rw[Az];omega)) (hK.2.1.scaled (m:=1) (n:=d) (by decide) (fun x=>by rw[Hk];omega))
  rwa [lK] at h1
theorem gT{f:LI}(lf:BZ f)(cf:AQ f=1)(tf:0<X f)(h:(B3 f (As f)).length<2):A9k f=f:=by
 unfold A9k;rw[Uw lf cf tf];exact if_pos (PR h)
theorem H1{p:LI}(hp:A9l p ≠ []):A9k (A9k p)=A9k p:=by
 obtain⟨lf,cf,tf,f0,_,_,_,h1⟩:=Cu hp;exact gT lf cf tf (by omega)
theorem Y_{p:LI}{K:Nat}(hp:A9l p ≠ [])(hl:p.length<=9)(hK:u K p):u (K+3) (A9k p)/\(A9k p).length<=(A9l p).length:=by
 obtain⟨lf,cf,tf,f0,hd,_,_,_⟩:=Cu hp;have h1:=(hd.length hp).1;rw[lf] at h1;obtain⟨c,k,hc,hk⟩:=hd;have:=Bp p;exact⟨RE hc cf hp hl (by omega) hK hk,h1⟩
theorem LH(t:LI):Dv [1] t:=⟨1,t,by decide,fun x=>by simp [Aa]⟩
end Go.Ai
namespace Go.Proofs.YtajompaehjkgkaaGreat
open Go.Ai
set_option maxRecDepth 100000
open BitVec renaming ofInt->U,or_comm->Ut
open Bool renaming and_eq_true->Af,eq_iff_iff->bI,or_eq_false_iff->GT
open Decidable renaming decide->A9i
open Go.Ai.AV renaming agg->o,bool->F,fresh->L,int->D,sl->H,tup->Ax
open Go.Ai.Reg renaming box->A9s,own->A9n,val->A9j
open Go.IntKind renaming bits->An,i64->O,u32->Ad,u64->B,wrap->I
open Int renaming add_comm->K7,add_mul_ediv_left->Tp,add_mul_emod_self_left->Um,add_zero->BE,ediv_eq_zero_of_lt->GQ,ediv_nonneg->JI,ediv_one->bK,emod_eq_of_lt->Gf,emod_lt_of_pos->Ew,emod_nonneg->FF,fdiv->A9q,fdiv_eq_ediv_of_nonneg->AAg,le_of_lt->Aw,lt_trichotomy->IH,mul_add->CT,mul_assoc->AF,mul_comm->AA,mul_ediv_add_emod->G2,mul_ediv_cancel_left->BX,mul_eq_zero->Hs,mul_le_mul_of_nonneg_left->Aj,mul_lt_mul_right->rK,mul_neg->E5,mul_neg_of_pos_of_neg->IE,mul_nonneg->A6,mul_one->De,mul_pos->Be,mul_pow->Q',mul_zero->AI,natAbs->E,natAbs_mul->BT,natAbs_of_nonneg->Lk,natAbs_pow->NN,natCast_mul->Dj,one_mul->Dt,pow_add->BG,pow_pos->EQ,pow_succ->A2,pow_zero->Da,sub_zero->EU,tdiv->Av,tdiv_eq_ediv_of_nonneg->BH,tmod->AC,tmod_eq_emod_of_nonneg->Bu,toNat->A,toNat_natCast->R,zero_add->DL,zero_mul->CX
open List renaming any_eq_false->X1,any_eq_true->Ahp,drop_eq_getElem_cons->Df,eq_nil_of_length_eq_zero->A7,ext_getElem?->Ge,getD_eq_getElem?_getD->Z,getElem?_append_left->AN,getElem?_append_right->AT,getElem?_drop->Bw,getElem?_eq_getElem->Ah,getElem?_eq_none->AD,getElem?_map->CL,getElem?_set_self->Xv,getElem?_take_of_lt->B9,getElem_mem->CY,length->Bs,length_append->Bf,length_drop->Es,length_map->N,length_pos_iff->Am,length_range->BI,length_replicate->Fi,length_set->A_,length_take->AB,map_append->Ep,map_cons->C8,map_map->Aza,map_nil->FU,map_replicate->A9c,map_set->Ayz,mem_cons->D4,mem_iff_getElem->JK,range->Aq,range_succ->H3,replicate->At,set_set->Sb
open Nat renaming add_assoc->DE,add_comm->GF,add_mul->DY,add_zero->FP,le_add_right->PB,le_mul_of_pos_right->Cf,le_refl->Ap,le_trans->Bx,log2->Ck,log2_lt->PD,lt_of_le_of_lt->Dz,lt_or_ge->Cn,mod_lt->HR,mul_assoc->EL,mul_comm->CZ,mul_le_mul->B2,mul_le_mul_left->AAd,mul_le_mul_right->AE,mul_pos->E9,mul_succ->PA,one_mul->Fe,pow_add->CN,pow_le_pow_right->B8,pow_lt_pow_right->QH,pow_mul->A8z,pow_pos->C9,pow_succ->FL,sub_add_cancel->LA,sub_self->P8,sub_zero->Kk,zero_add->Cs,zero_le->By,zero_mul->Tx
theorem qP{E rs:List Rn}{m:Nat}(hl:E.length=rs.length)(h:∀ x,x<m->E.getD x z0=rs.getD x z0):FC E rs m=rs:=by
 apply Ge;intro t;unfold FC;by_cases ht:t<m
 ·by_cases hm:t<E.length
  ·have:=h t ht;rw[Z,Z,Ah hm,Ah (by omega)] at this;rw[AN (by rw[AB];omega),B9 ht,Ah hm,Ah (by omega)];simpa using this
  ·rw[AD (by rw[Bf,AB,Es];omega),AD (by omega)]
 ·by_cases hm:m<=E.length
  ·rw[AT (by rw[AB];omega),AB,Bw];congr 1;omega
  ·rw[AD (by rw[Bf,AB,Es];omega),AD (by omega)]
theorem qQ{E rs:List Rn}{m:Nat}(hl:E.length=rs.length)(hm:m<=rs.length)(h:∀ x,m<=x->E.getD x z0=rs.getD x z0):FC E rs m=E:=by
 apply Ge;intro t;unfold FC;by_cases ht:t<m
 ·rw[AN (by rw[AB];omega),B9 ht]
 ·rw[AT (by rw[AB];omega),AB,Bw,show m+(t-min m E.length)=t by omega];by_cases hm:t<E.length
  ·have:=h t (by omega);rw[Z,Z,Ah hm,Ah (by omega)] at this;rw[Ah hm,Ah (by omega)];simpa using this.symm
  ·rw[AD (by omega),AD (by omega)]
section
variable {p q:LI} {J Kq:Nat}
theorem SV{c:Int}(hp:u J p)(hc:Br Kq c):u (J+Kq) (A0 c p):=fun i=>by
 rw[AK,GF];exact hc.mul (hp i)
theorem A8j{t:Int}{l:Rn}{qs os:List Rn}{kq:Nat}{j:Int}(hp:u J p)(ht:Br Kq t)(hS:J+Kq<1048576)(hN:p.length<=1048576) :
  Ar (.loop Pc) (Ju qs p.length (p.map V) (V t) kq os j l (p.length:Nat) 0) (.exit 2) (Ju qs p.length ((A0 t p).map V) (V t) kq os j l (p.length:Nat) (p.length:Nat)):=by
 have hE:((A0 t p).map V).length=(p.map V).length:=by rw[N,N,Bc]
 have hpl:(p.map V).length=p.length:=N ..;have h:=C1.up (prog:=AZ) (c:=Pc) (ex := .exit 2) (fin:=Ju qs p.length ((A0 t p).map V) (V t) kq os j l (p.length:Nat) (p.length:Nat))
  (fun i=>Ju qs p.length (FC ((A0 t p).map V) (p.map V) i) (V t) kq os j l (p.length:Nat) (i:Nat)) p.length (by nofun) ?_ ?_ 0 (By _)
 ·rw[Nr] at h;exact h
 ·intro i hi;have ei:I O ((i:Int)+1)=((i+1:Nat):Int):=by rw[Bl (by omega) (by omega)];omega
  have hml:=H0 hE i;have hget:=Mx hE (i:=i) (by omega);have hEi:((A0 t p).map V).getD i z0=V ((A0 t p).getD i 0):=Fa (by rw[Bc];exact hi);have hset:=My hE (i:=i) (by omega);rw[hEi,AK] at hset;have gp:=Bk (AR hp) i;have gt:=BL ht;have m:=Gc p i;have m1:=M0 gp gt (by omega);generalize FC ((A0 t p).map V) (p.map V) i=M at *
  have k:=Acu qs p.length M (V t) kq os j l (p.length:Nat) (i:Nat) (by simp;omega) (by omega) (by omega) (by rw[R,hget];exact m1);refine k.to rfl ?_;simp only[ei,R,hget];rw[m,A9y,AA,hset]
 ·rw[show FC ((A0 t p).map V) (p.map V) p.length=(A0 t p).map V by have h:=Ns hE;rw[hpl] at h;exact h];exact Acv _ _ _ _ _ _ _ _ _ _ (by simp)
theorem A8k{t:Int}{l:Rn}{qs rs:List Rn}{k:Nat}{j:Int}(hp:u J p)(ht:Br Kq t)(hS:J+Kq<1048576)(hN:p.length<=1048576) :
  Ar (.loop Pd) (Jv qs k rs (V t) p.length (p.map V) j l (p.length:Nat) 0) (.exit 4) (Jv qs k rs (V t) p.length ((A0 t p).map V) j l (p.length:Nat) (p.length:Nat)):=by
 have hE:((A0 t p).map V).length=(p.map V).length:=by rw[N,N,Bc]
 have hpl:(p.map V).length=p.length:=N ..;have h:=C1.up (prog:=AZ) (c:=Pd) (ex := .exit 4) (fin:=Jv qs k rs (V t) p.length ((A0 t p).map V) j l (p.length:Nat) (p.length:Nat))
  (fun i=>Jv qs k rs (V t) p.length (FC ((A0 t p).map V) (p.map V) i) j l (p.length:Nat) (i:Nat)) p.length (by nofun) ?_ ?_ 0 (By _)
 ·rw[Nr] at h;exact h
 ·intro i hi;have ei:I O ((i:Int)+1)=((i+1:Nat):Int):=by rw[Bl (by omega) (by omega)];omega
  have hml:=H0 hE i;have hget:=Mx hE (i:=i) (by omega);have hEi:((A0 t p).map V).getD i z0=V ((A0 t p).getD i 0):=Fa (by rw[Bc];exact hi);have hset:=My hE (i:=i) (by omega);rw[hEi,AK] at hset;have gp:=Bk (AR hp) i;have gt:=BL ht;have m:=Gc p i;have m1:=M0 gp gt (by omega);generalize FC ((A0 t p).map V) (p.map V) i=M at *
  have k:=Acw qs k rs (V t) p.length M j l (p.length:Nat) (i:Nat) (by simp;omega) (by omega) (by omega) (by rw[R,hget];exact m1);refine k.to rfl ?_;simp only[ei,R,hget];rw[m,A9y,AA,hset]
 ·rw[show FC ((A0 t p).map V) (p.map V) p.length=(A0 t p).map V by have h:=Ns hE;rw[hpl] at h;exact h];exact Acx _ _ _ _ _ _ _ _ _ _ (by simp)
theorem A8l{t:Rn}{l:Int}{os:List Rn}{kq j Jp:Nat}(hp:u Jp p)(hq:u Kq q)(hl:Br J l)(hS:J+Kq<1048576)(hJp:Jp<1048576)(hN:p.length<=1048576)(hj:j+q.length<=p.length) :
  Ar (.loop Pe) (Jw (q.map V) p.length (p.map V) t kq os (j:Nat) (V l) (q.length:Nat) 0) (.exit 6) (Jw (q.map V) p.length ((Hi p q l j).map V) t kq os (j:Nat) (V l) (q.length:Nat) (q.length:Nat)):=by
 have hE:((Hi p q l j).map V).length=(p.map V).length:=by rw[N,N,GC]
 have hpl:(p.map V).length=p.length:=N ..;have gE:∀ x,x<p.length->((Hi p q l j).map V).getD x z0=V (p.getD x 0-l*(Dn j q).getD x 0):=fun x hx=>by
  rw[Fa (by rw[GC];exact hx),LB _ _ _ _ _ hj]
 have eout:∀ x,(x<j\/j+q.length<=x)->((Hi p q l j).map V).getD x z0=(p.map V).getD x z0:=by
  intro x hx;by_cases h:x<p.length
  ·rw[gE x h,Fa h,Cm];rcases hx with hx | hx
   ·rw[if_neg (by omega),AI,EU]
   ·rw[if_pos (by omega),B0 (xs:=q) (show q.length<=x-j by omega),AI,EU]
  ·rw[Z,Z,AD (by omega),AD (by omega)]
 have h:=C1.up (prog:=AZ) (c:=Pe) (ex := .exit 6) (fin:=Jw (q.map V) p.length ((Hi p q l j).map V) t kq os (j:Nat) (V l) (q.length:Nat) (q.length:Nat))
  (fun i=>Jw (q.map V) p.length (FC ((Hi p q l j).map V) (p.map V) (j+i)) t kq os (j:Nat) (V l) (q.length:Nat) (i:Nat)) q.length (by nofun) ?_ ?_ 0 (By _)
 ·rw[FP,qP hE (fun x hx=>eout x (.inl hx))] at h;exact h
 ·intro i hi;have ei:I O ((i:Int)+1)=((i+1:Nat):Int):=by rw[Bl (by omega) (by omega)];omega
  have eji:I O ((j:Int)+(i:Int))=((j+i:Nat):Int):=by rw[Bl (by omega) (by omega)];omega
  have hml:=H0 hE (j+i);have hget:=Mx hE (i:=j+i) (by omega);have hEi:=gE (j+i) (by omega);rw[Cm,if_pos (by omega),show j+i-j=i by omega] at hEi;have hset:=My hE (i:=j+i) (by omega);rw[hEi] at hset;have gp:=Bk (AR hp) (j+i);have gq:=Bk (AR hq) i;have gl:=BL hl;have m:=Gc p (j+i);have vq:=Gc q i;have m1:=M0 gl gq (by omega);have f1:Br (J+Kq) (Q (V l)*Q ((q.map V).getD i z0)):=Br.mul (by rw[A9y];exact hl) gq.fits;have m2:=gR gp (BL f1) (by omega) (by omega);rw[A9y (Q (V l)*Q ((q.map V).getD i z0))] at m2;generalize FC ((Hi p q l j).map V) (p.map V) (j+i)=M at *
  have k:=Acy (q.map V) p.length M t kq os (j:Nat) (V l) (q.length:Nat) (i:Nat) (by simp;omega) (by rw[eji];omega) (by omega) (by rw[N];omega) (by rw[R];exact m1) (by rw[eji,R,R,hget];exact m2);refine k.to rfl ?_;simp only[ei,eji,R,hget];rw[m,vq,A9y,hset,DE]
 ·rw[qQ hE (by omega) (fun x hx=>eout x (.inr hx))];exact Acz _ _ _ _ _ _ _ _ _ _ (by simp)
theorem Adg{l:Int}(hp:u (J+Kq) p)(hq:u Kq q)(hl:Br J l)(k:Nat)(hk:k+q.length<=p.length):u (J+Kq+1) (Hi p q l k):=fun i=>by
 rw[LB _ _ _ _ _ hk,Cm];split
 ·exact (hp i).add (hl.mul (hq _)).neg
 ·rw[AI,EU];exact (hp i).mono (by omega)
theorem uR{l:Int}(hp:u J p)(hl:Br J l)(k:Nat):u J (p.set k l):=fun i=>by
 by_cases h:i=k
 ·subst h;by_cases hi:i<p.length
  ·rw[Z,Xv hi];exact hl
  ·rw[B0 (by rw[A_];omega)];exact GZ _
 ·rw[Cy (by omega)];exact hp i
end
theorem Adh{q:LI}{Kq:Nat}(hq:u Kq q)(hq0:q ≠ []):∀ (k:Nat) (r out:LI) (J:Nat),u J r->u J out->J+k*(Kq+1)<1048576->k<=out.length->out.length+q.length=r.length+1->r.length<=1048576 ->
  (∃ r',Ar (.loop VJ) (QL (q.map V) r.length (r.map V) (V (X q)) out.length (out.map V) ((k:Int)-1)) (.exit 0) (QL (q.map V) r.length r' (V (X q)) out.length ((Hj q k r out).map V) (-1)))/\u (J+k*(Kq+1)) (Hj q k r out)/\(Hj q k r out).length=out.length:=by
 have hql:=Am.2 hq0;intro k;induction k with
 | zero =>
  intro r out J _ ho _ _ _ _;exact⟨⟨_,Ao (Avp _ _ _ _ _ _ _ (by simp)) (by nofun)⟩,ho.mono (by omega),rfl⟩
 | succ k ih =>
  intro r out J hr ho hS hk hl hN;simp only[Hj];have hS':J+Kq+1+k*(Kq+1)<1048576:=by rw[DY,Fe] at hS;omega
  have el:Br J (r.getD (k+q.length-1) 0):=hr _;have e1:((k+1:Nat):Int)-1=(k:Int):=by omega
  have e2:I O (I O ((k:Int)+(((q.map V).length:Nat):Int))-1)=((k+q.length-1:Nat):Int):=by
   rw[N,Bl (n:=(k:Int)+(q.length:Nat)) (by omega) (by omega),Bl (by omega) (by omega)];omega
  have e3:(r.map V).getD (k+q.length-1) z0=V (r.getD (k+q.length-1) 0):=Fa (by omega);have e4:I O ((k:Int)-1)=(k:Int)-1:=Bl (by omega) (by omega);have ft:Br Kq (X q):=hq _;generalize hlead:r.getD (k+q.length-1) 0=l at *
  have hps:=SV hr ft;have hpo:=SV ho ft;have la:=A8j (l:=V l) (qs:=q.map V) (os:=out.map V) (kq:=out.length) (j:=(k:Nat)) hr ft (by omega) hN;have lb:=A8k (l:=V l) (qs:=q.map V) (rs:=(A0 (X q) r).map V) (k:=r.length) (j:=(k:Nat)) ho ft (by omega) (by omega);have hlc:=A8l (t:=V (X q)) (l:=l) (os:=((A0 (X q) out).set k l).map V) (kq:=out.length) (j:=k) (p:=A0 (X q) r) (J:=J) hps hq el (by omega) (by omega) (by rw[Bc];exact hN) (by rw[Bc];omega);rw[Bc] at hlc;obtain⟨⟨r',hr'⟩,kb,len⟩:=ih (Hi (A0 (X q) r) q l k) ((A0 (X q) out).set k l) (J+Kq+1) (Adg hps hq el k (by rw[Bc];omega)) (uR (hpo.mono (by omega)) (el.mono (by omega)) k) hS' (by rw[A_,Bc];omega) (by rw[A_,Bc,GC,Bc];exact hl) (by rw[GC,Bc];exact hN);rw[A_,Bc,GC,Bc] at hr';refine⟨⟨r',?_⟩,kb.mono (by rw[DY,Fe];omega),by rw[len,A_,Bc]⟩;have hset:((A0 (X q) out).map V).set k (V l)=((A0 (X q) out).set k l).map V:=by rw[Ayz]
  have k1:=Avo (q.map V) r.length (r.map V) (V (X q)) out.length (out.map V) (k:Nat) ((A0 (X q) r).map V) ((Hi (A0 (X q) r) q l k).map V) ((A0 (X q) out).map V) _ _ _ _ _ _ (by simp) (by rw[e2];omega) (N ..)
   (by rw[e2,R,e3];exact la) (by rw[e2,R,e3];exact lb) (by omega) (by rw[N,Bc]) (by rw[e2,R,R,e3,hset,N];exact hlc)
  rw[e2,R,R,e3,hset,e4] at k1;rw[e1];exact C1.loop k1 hr'
theorem Avt:V 0=z0:=rfl
theorem XV{p q:LI}{J K:Nat}(hp:u J p)(hq:u K q)(lp:BZ p)(hq0:q ≠ [])(hl:q.length<=p.length)(hN:p.length<=1000000)(hS:J+(p.length-q.length+1)*(K+1)<1048576) :
  RQ 156 [H (p.map V).length (pc (p.map V)),H (q.map V).length (pc (q.map V))] (L 2 ((prim (Hj q (p.length-q.length+1) p (At (p.length-q.length+1) 0))).map V).length (pc ((prim (Hj q (p.length-q.length+1) p (At (p.length-q.length+1) 0))).map V))):=by
 have hql:=Am.2 hq0;have htr:=I_ (rs:=p.map V) (fun r h=>(AR hp r h).mono (show J<=1048576 by omega)) (by rw[N];omega);rw[AJ,lp] at htr;have htr':RQ 66 [H (p.map V).length (pc (p.map V))] (L 2 (p.map V).length (pc (p.map V))):=by (first|rw[N] at htr |-|(unfold Y at htr;rw[N] at htr |-));exact htr
 obtain⟨⟨r',hlp⟩,kb,len⟩:=Adh hq hq0 (p.length-q.length+1) p (At (p.length-q.length+1) 0) J hp (fun i=>by rw[DA];exact GZ _) hS (by simp) (by simp;omega) (by omega);rw[Fi] at hlp len;have e1:I O ((((q.map V).length:Nat):Int)-1)=((q.length-1:Nat):Int):=by rw[N,Bl (by omega) (by omega)];omega
 have e2:I O (I O ((((p.map V).length:Nat):Int)-(((q.map V).length:Nat):Int))+1)=((p.length-q.length+1:Nat):Int):=by
  rw[N,N,Bl (n:=(p.length:Int)-(q.length:Nat)) (by omega) (by omega),Bl (by omega) (by omega)];omega
 have e3:I O (((p.length-q.length+1:Nat):Int)-1)=((p.length-q.length+1:Nat):Int)-1:=Bl (by omega) (by omega);have hz:(At (p.length-q.length+1) (0:Int)).map V=At (p.length-q.length+1) z0:=by rw[A9c,Avt]
 have hpr:=Er (rs:=(Hj q (p.length-q.length+1) p (At (p.length-q.length+1) 0)).map V) (AR kb) (by omega) (by rw[N];omega);rw[AJ] at hpr;have hpr':=hpr;unfold Y at hpr';rw[show ∀ o:LI,(o.map V).length=o.length from fun o=>N ..,len] at hpr';have k:=Avq (p.map V) (q.map V) (p.map V) ((prim (Hj q (p.length-q.length+1) p (At (p.length-q.length+1) 0))).map V) r' ((Hj q (p.length-q.length+1) p (At (p.length-q.length+1) 0)).map V) (V (X q)) p.length (p.length-q.length+1) (-1) htr' (by rw[e1,N];omega) (by rw[e2];omega) (by
   rw[e1,e2,R,R,e3,Oy,<- hz,Fa (show q.length-1<q.length by omega),show (p.map V).length=p.length from N ..];exact hlp) (by
   have hlm:((prim (Hj q (p.length-q.length+1) p (At (p.length-q.length+1) 0))).map V).length=(prim (Hj q (p.length-q.length+1) p (At (p.length-q.length+1) 0))).length:=N ..;rw[hlm];exact hpr')
 exact k
theorem WK{rs:List Rn}{K c:Nat}(hr:∀ r∈rs,AO K r)(hn:rs.length<=c)(hc:c<=9)(hS:(K+3)*(2*3^c)<=500000):Nt 114 [Y pc rs] (A9k (P rs)):=by
 have h3:0<3^c:=C9 (by decide);have hK:K+3<=250000:=by
  have:(K+3)*2<=(K+3)*(2*3^c):=AAd _ (by omega);omega
 have p1:=Er hr (by omega) (by omega);have p1':RQ 115 [Y pc rs] (L 2 ((prim (P rs)).map V).length (pc ((prim (P rs)).map V))):=by rw[N];exact p1
 have k1:u K (prim (P rs)):=(Jd (CP hr)).prim;have l1:(prim (P rs)).length<=rs.length:=by rw[Ca];have:=Bp (P rs);rwa [A9z] at this
 obtain⟨q1,q2⟩:=RF k1 (by omega) (by omega);have ka:u K (AAc (prim (P rs))):=by
  unfold AAc;split
  ·intro i;rw[G_];exact (k1 i).neg
  ·exact k1
 have la:=Kt (prim (P rs));have lda:BZ (AAc (prim (P rs))):=Np (Cq _);have hpp:(¬ X (prim (P rs))<0)->AAc (prim (P rs))=prim (P rs):=Pv;have hder:=PV (rs:=(AAc (prim (P rs))).map V) (AR ka) (by omega) (by rw[N];omega);rw[AJ] at hder;have hder':RQ 116 [H ((AAc (prim (P rs))).map V).length (pc ((AAc (prim (P rs))).map V))] (L 2 ((As (AAc (prim (P rs)))).map V).length (pc ((As (AAc (prim (P rs)))).map V))):=by
  have hlm:((As (AAc (prim (P rs)))).map V).length=(As (AAc (prim (P rs)))).length:=N ..;rw[hlm];exact hder
 have kd:u (K+2) (As (AAc (prim (P rs)))):=WJ ka (by omega);have ld:(As (AAc (prim (P rs)))).length<=c:=by have:=SU (AAc (prim (P rs)));omega
 have hcom:=RG (rs:=(AAc (prim (P rs))).map V) (ss:=(As (AAc (prim (P rs)))).map V) (K:=K+2) (c:=c) (fun r h=>(AR ka r h).mono (by omega)) (AR kd) (by rw[N];omega) (by rw[N];exact ld) (by omega) hS;rw[AJ,AJ] at hcom;change Nt 135 _ (B3 (AAc (prim (P rs))) (As (AAc (prim (P rs))))) at hcom;have hdiv:2<=(B3 (AAc (prim (P rs))) (As (AAc (prim (P rs))))).length->RQ 156 [H ((AAc (prim (P rs))).map V).length (pc ((AAc (prim (P rs))).map V)),H ((B3 (AAc (prim (P rs))) (As (AAc (prim (P rs))))).map V).length (pc ((B3 (AAc (prim (P rs))) (As (AAc (prim (P rs))))).map V))]
   (L 2 ((prim (Hj (B3 (AAc (prim (P rs))) (As (AAc (prim (P rs))))) ((AAc (prim (P rs))).length-(B3 (AAc (prim (P rs))) (As (AAc (prim (P rs))))).length+1) (AAc (prim (P rs))) (At ((AAc (prim (P rs))).length-(B3 (AAc (prim (P rs))) (As (AAc (prim (P rs))))).length+1) 0))).map V).length (pc ((prim (Hj (B3 (AAc (prim (P rs))) (As (AAc (prim (P rs))))) ((AAc (prim (P rs))).length-(B3 (AAc (prim (P rs))) (As (AAc (prim (P rs))))).length+1) (AAc (prim (P rs))) (At ((AAc (prim (P rs))).length-(B3 (AAc (prim (P rs))) (As (AAc (prim (P rs))))).length+1) 0))).map V))):=by
  intro h2;have hp0:A9l (P rs) ≠ []:=by
   intro h0;have:prim (P rs)=[]:=DG.2 (Dd.1 h0);rw[this] at h2;exact absurd h2 (by decide)
  obtain⟨a1,a2,_,_,_,_⟩:=RI hp0;obtain⟨b1,b2⟩:=gP (t:=As (AAc (prim (P rs)))) (C7 a1 a2) (by omega) ka;rw[a1] at b2;exact XV ka b1 lda (by intro h0;rw[h0] at h2;exact absurd h2 (by decide)) b2 (by omega) (by
   have h4:(AAc (prim (P rs))).length-(B3 (AAc (prim (P rs))) (As (AAc (prim (P rs))))).length+1<=10:=by omega
   have h5:=AE (K+3+1) h4;have h6:3^2<=3^c:=B8 (by decide) (by omega);have h7:(K+3)*18<=(K+3)*(2*3^c):=AAd _ (by omega);omega)
 unfold A9k;by_cases hs:(AAc (prim (P rs))).length<2
 ·rw[if_pos (.inl hs)];by_cases ht:X (prim (P rs))<0
  ·exact .inr (XJ rs _ _ (by rw[decide_eq_true_eq,N];omega) p1' (q1 ht))
  ·rw[hpp ht] at hs |-;exact .inr (XQ rs _ (by rw[decide_eq_true_eq,N];omega) p1' (q2 ht))
 ·by_cases hg:(B3 (AAc (prim (P rs))) (As (AAc (prim (P rs))))).length<2
  ·rw[if_pos (.inr hg)];by_cases ht:X (prim (P rs))<0
   ·rcases hcom with h | h
    ·exact .inr (XK rs _ _ _ _ (by rw[decide_eq_false_iff_not,N];omega) (by rw[decide_eq_true_eq,N];omega) p1' (q1 ht) hder' h)
    ·exact .inr (XM rs _ _ _ _ (by rw[decide_eq_false_iff_not,N];omega) (by rw[decide_eq_true_eq,N];omega) p1' (q1 ht) hder' h)
   ·rw[hpp ht] at *
    rcases hcom with h | h
    ·exact .inr (XO rs _ _ _ (by rw[decide_eq_false_iff_not,N];omega) (by rw[decide_eq_true_eq,N];omega) p1' (q2 ht) hder' h)
    ·exact .inr (XR rs _ _ _ (by rw[decide_eq_false_iff_not,N];omega) (by rw[decide_eq_true_eq,N];omega) p1' (q2 ht) hder' h)
  ·rw[if_neg (by omega)];have hdiv:=hdiv (by omega);by_cases ht:X (prim (P rs))<0
   ·rcases hcom with h | h
    ·exact .inl (XL rs _ _ _ _ _ (by rw[decide_eq_false_iff_not,N];omega) (by rw[decide_eq_false_iff_not,N];omega) p1' (q1 ht) hder' h hdiv)
    ·exact .inl (XN rs _ _ _ _ _ (by rw[decide_eq_false_iff_not,N];omega) (by rw[decide_eq_false_iff_not,N];omega) p1' (q1 ht) hder' h hdiv)
   ·rw[hpp ht] at *
    rcases hcom with h | h
    ·exact .inl (XP rs _ _ _ _ (by rw[decide_eq_false_iff_not,N];omega) (by rw[decide_eq_false_iff_not,N];omega) p1' (q2 ht) hder' h hdiv)
    ·exact .inl (XT rs _ _ _ _ (by rw[decide_eq_false_iff_not,N];omega) (by rw[decide_eq_false_iff_not,N];omega) p1' (q2 ht) hder' h hdiv)
def gW(p:LI):AV := H (p.map V).length (pc (p.map V))
def plF(p:LI):AV := L 2 (p.map V).length (pc (p.map V))
theorem E3{f:Nat}{args:List AV}{X:LI}(h:RQ f args (L 2 X.length (pk X))):RQ f args (L 2 (X.map V).length (pc (X.map V))):=by
 rw[N];exact h
theorem gX(p:LI):Q ((p.map V).getD (p.length-1) z0)=X p:=Gc p (p.length-1)
theorem Nw{p:LI}{K:Nat}(hk:u K p)(hL:BZ p)(hK:K<=1048576)(hN:p.length<=1048576) :
  (X p<0->RQ 120 [gW p] (plF (AAc p)))/\(¬ X p<0->RQ 120 [gW p] (gW p)):=by
 have hg:∀ r∈p.map V,AO 1048576 r:=fun r hr=>(AR hk r hr).mono hK;have hlm:(p.map V).length=p.length:=N ..;by_cases h0:0<p.length
 ·have e1:I O ((((p.map V).length:Nat):Int)-1)=((p.length-1:Nat):Int):=by rw[hlm,Bl (by omega) (by omega)];omega
  obtain⟨g1,g2⟩:=Bk hg (p.length-1);have hs:=Gw (neg:=((p.map V).getD (p.length-1) z0).1) g1 g2;have ht:Q ((p.map V).getD (p.length-1) z0)=X p:=gX p;rw[show v ((p.map V).getD (p.length-1) z0).1 ((p.map V).getD (p.length-1) z0).2=X p from ht] at hs;refine⟨fun h => ?_,fun h => ?_⟩
  ·have hn:=YS hg (by omega);rw[AJ,Ie hL] at hn;have e:AAc p=Ci p:=by unfold AAc;rw[if_pos h]
   unfold gW plF;rw[e];exact pQ _ _ (by rw[decide_eq_true_eq];omega) (by rw[e1,R,ht,decide_eq_true_eq];unfold BS;rw[if_pos h];decide) (by rw[e1];omega) (by rw[e1,R,ht];exact hs) (E3 hn)
  ·exact pR _ (by rw[decide_eq_true_eq];omega) (by rw[e1,R,ht,decide_eq_false_iff_not];unfold BS;rw[if_neg h];split <;> decide) (by rw[e1];omega) (by rw[e1,R,ht];exact hs)
 ·have hz:p=[]:=A7 (by omega);subst hz;refine⟨fun h=>absurd h (by decide),fun _=>pS [] (by decide)⟩
theorem qR(n:Int):Q (false,(V n).2)=(n.natAbs:Int):=by
 show v false (M n.natAbs)=_;unfold v;rw[Cx];simp
theorem WL{x y:Rn}{J K:Nat}(hx:AO J x)(hy:AO K y)(h:J+K<=1048576):RQ 96 [o [F x.1,H x.2.length (W x.2)],Ay y] (Ag (Q x*Q y)):=O1 hx.1 hy.1 (by have:=hx.2;have:=hy.2;omega)
theorem Avu{x y:Rn}{J K:Nat}(hx:AO J x)(hy:AO K y)(h:J<1048576)(h2:K<1048576):RQ 129 [Ay x,Ay y] (Ag (Q x-Q y)):=TG hx.1 hy.1 (by have:=hx.2;omega) (by have:=hy.2;omega)
def NK(p d:LI)(a b:Int)(j:Nat):Int:=if p.length-d.length<=j then a*p.getD j 0-b*d.getD (j-(p.length-d.length)) 0 else a*p.getD j 0
theorem gY(p d:LI)(a b:Int)(n:Nat):((Aq n).map fun j=>V (NK p d a b j))=(CD p d a b n).map V:=by
 unfold CD NK;rw[Aza];rfl
section
variable {p d:LI} {J Kd:Nat}
theorem RJ{b:Int}(hp:u J p)(hd:u Kd d)(hb:Br J b)(hS:J+Kd+1<1000000)(hd0:d ≠ [])(hl:d.length<=p.length)(hN:p.length<=1048576) :
  Ar (.loop Lw) (Gx (p.map V) (d.map V) (V (X d)) (V b) ((p.length-d.length:Nat):Int) 0 [] 0) (.exit 2)
   (Gx (p.map V) (d.map V) (V (X d)) (V b) ((p.length-d.length:Nat):Int) (p.length-1) (pc ((CD p d ((X d).natAbs:Int) b (p.length-1)).map V)) ((p.length-1:Nat):Int)):=by
 have hdl:=Am.2 hd0;have hlm:(p.map V).length=p.length:=N ..;have hld:(d.map V).length=d.length:=N ..;have e1:I O ((((p.map V).length:Nat):Int)-1)=((p.length-1:Nat):Int):=by rw[hlm,Bl (by omega) (by omega)];omega
 have h:=C1.up (prog:=AZ) (c:=Lw) (ex := .exit 2) (fin:=Gx (p.map V) (d.map V) (V (X d)) (V b) ((p.length-d.length:Nat):Int) (p.length-1) (pc ((CD p d ((X d).natAbs:Int) b (p.length-1)).map V)) ((p.length-1:Nat):Int))
  (fun i=>Gx (p.map V) (d.map V) (V (X d)) (V b) ((p.length-d.length:Nat):Int) i (pc ((Aq i).map fun j=>V (NK p d ((X d).natAbs:Int) b j))) (i:Nat)) (p.length-1) (by nofun) ?_ ?_ 0 (By _)
 ·exact h
 ·intro i hi;have ei:I O ((i:Int)+1)=((i+1:Nat):Int):=by rw[Bl (by omega) (by omega)];omega
  have gp:=Bk (AR hp) i;have ga:AO Kd (false,(V (X d)).2):=by
   have:=BL (E8 hd);exact⟨this.1,this.2⟩
  have gb:=BL hb;have m:=Gc p i;have m1:=WL ga gp (by omega);have va:=qR (X d);by_cases hat:p.length-d.length<=i
  ·have ea:I O ((i:Int)-((p.length-d.length:Nat):Int))=((i-(p.length-d.length):Nat):Int):=by rw[Bl (by omega) (by omega)];omega
   have gq:=Bk (AR hd) (i-(p.length-d.length));have vq:=Gc d (i-(p.length-d.length));have m2:=WL gb gq (by omega);have f1:Br (Kd+J) (Q (false,(V (X d)).2)*Q ((p.map V).getD i z0)):=ga.fits.mul gp.fits;have f2:Br (J+Kd) (Q (V b)*Q ((d.map V).getD (i-(p.length-d.length)) z0)):=gb.fits.mul gq.fits;have m3:=Avu (BL f1) (BL f2) (by omega) (by omega);rw[A9y (Q (false,(V (X d)).2)*_),A9y (Q (V b)*Q ((d.map V).getD (i-(p.length-d.length)) z0))] at m3;have k:=Abz (p.map V) (d.map V) (V (X d)) (V b) ((p.length-d.length:Nat):Int) i (pc ((Aq i).map fun j=>V (NK p d ((X d).natAbs:Int) b j))) (i:Nat) (by rw[e1,decide_eq_true_eq];omega) (by rw[decide_eq_true_eq];omega) (by omega) (by rw[ea];omega) (by omega)
    (by rw[R];exact m1) (by rw[ea,R];exact m2) (by rw[ea,R,R];exact m3)
   refine k.to rfl ?_;rw[ea,R,R,ei];rw[<- Gz (NK p d ((X d).natAbs:Int) b) i];unfold NK;rw[if_pos hat,va,m,A9y,vq]
  ·have k:=Aca (p.map V) (d.map V) (V (X d)) (V b) ((p.length-d.length:Nat):Int) i (pc ((Aq i).map fun j=>V (NK p d ((X d).natAbs:Int) b j))) (i:Nat) (by rw[e1,decide_eq_true_eq];omega) (by rw[decide_eq_false_iff_not];omega) (by omega) (by omega)
    (by rw[R];exact m1)
   refine k.to rfl ?_;rw[R,ei];rw[<- Gz (NK p d ((X d).natAbs:Int) b) i];unfold NK;rw[if_neg hat,va,m]
 ·show C1 _ _ (Gx _ _ _ _ _ _ (pc ((Aq (p.length-1)).map fun j=>V (NK p d ((X d).natAbs:Int) b j))) _) _ _;rw[gY];exact Acb _ _ _ _ _ _ _ _ (by rw[e1,decide_eq_false_iff_not];omega)
theorem gZ(hp:u J p)(hd:u Kd d)(hS:J+Kd+1<1000000)(hd0:d ≠ [])(hl:d.length<=p.length)(hN:p.length<=1048576) :
  Ar Qr (JX (p.map V) (d.map V) (V (X d))) .norm (JX ((DH p d).map V) (d.map V) (V (X d))):=by
 have hdl:=Am.2 hd0;have hlm:(p.map V).length=p.length:=N ..;have hld:(d.map V).length=d.length:=N ..;have e1:I O ((((p.map V).length:Nat):Int)-1)=((p.length-1:Nat):Int):=by rw[hlm,Bl (by omega) (by omega)];omega
 have e2:I O ((((p.map V).length:Nat):Int)-(((d.map V).length:Nat):Int))=((p.length-d.length:Nat):Int):=by rw[hlm,hld,Bl (by omega) (by omega)];omega
 have gt:=BL (E8 hd);have gl:=Bk (AR hp) (p.length-1);have f:=gX p;have hs:=Gw (neg:=(V (X d)).1) gt.1 (by have:=gt.2;omega);rw[show v (V (X d)).1 (V (X d)).2=X d from A9y _] at hs;have hT:∀ b,Br J b->b=sg (X d)*X p->RQ 46 [H (p.length-1) (pc ((CD p d ((X d).natAbs:Int) b (p.length-1)).map V))] (L 2 ((A9l (CD p d ((X d).natAbs:Int) b (p.length-1))).map V).length (pc ((A9l (CD p d ((X d).natAbs:Int) b (p.length-1))).map V)))
   /\ RQ 86 [H ((A9l (CD p d ((X d).natAbs:Int) b (p.length-1))).map V).length (pc ((A9l (CD p d ((X d).natAbs:Int) b (p.length-1))).map V))] (L 2 ((DH p d).map V).length (pc ((DH p d).map V))):=by
  intro b fb hb;have kE:u (J+Kd+1) (CD p d ((X d).natAbs:Int) b (p.length-1)):=R9 hp hd (Ps (E8 hd)) fb _;have hlE:=El p d ((X d).natAbs:Int) b (p.length-1);have htl:=Bp (CD p d ((X d).natAbs:Int) b (p.length-1));refine⟨?_,?_⟩
  ·have h:=Fj (rs:=(CD p d ((X d).natAbs:Int) b (p.length-1)).map V) (fun r hr=>(AR kE r hr).mono (by omega)) (by rw[N];omega);(first|rw[AJ,N,hlE] at h|(rw[AJ] at h;unfold Y at h;rw[N,hlE] at h));exact E3 h
  ·have h:=Ib (rs:=(A9l (CD p d ((X d).natAbs:Int) b (p.length-1))).map V) (AR kE.trim) (by omega) (by rw[N];omega);rw[AJ] at h;have e:prim (A9l (CD p d ((X d).natAbs:Int) b (p.length-1)))=DH p d:=by
    rw[W5 hd0 hl,<- hb];exact Mu (Dk _)
   rw[e] at h;exact E3 h
 by_cases hneg:X d<0
 ·have hng:=SJ (neg:=((p.map V).getD (p.length-1) z0).1) gl.1 (by have:=gl.2;omega);rw[show v ((p.map V).getD (p.length-1) z0).1 ((p.map V).getD (p.length-1) z0).2=X p from f] at hng;have hb : -(X p)=sg (X d)*X p:=by unfold sg;rw[if_pos hneg];omega
  obtain⟨t1,t2⟩:=hT _ (E8 hp).neg hb;exact Aun (p.map V) (d.map V) (V (X d)) ((CD p d ((X d).natAbs:Int) (-(X p)) (p.length-1)).map V) _ _ (p.length-1) ((p.length-1:Nat):Int) (by rw[decide_eq_true_eq];omega) (by rw[A9y,decide_eq_true_eq];unfold BS;rw[if_pos hneg];decide) (by rw[e1];omega) (by rw[A9y];exact hs) (by rw[e1,R,f];exact hng)
   (by rw[e1,e2,R,f];exact RJ hp hd (E8 hp).neg hS hd0 hl hN) t1 t2
 ·have hb:X p=sg (X d)*X p:=by unfold sg;rw[if_neg hneg];omega
  obtain⟨t1,t2⟩:=hT _ (E8 hp) hb;have hu:(p.map V).getD (p.length-1) z0=V (X p):=Fa (by omega);exact Auo (p.map V) (d.map V) (V (X d)) ((CD p d ((X d).natAbs:Int) (X p) (p.length-1)).map V) _ _ (p.length-1) ((p.length-1:Nat):Int) (by rw[decide_eq_true_eq];omega) (by rw[A9y,decide_eq_false_iff_not];unfold BS;rw[if_neg hneg];split <;> decide) (by rw[e1];omega) (by rw[A9y];exact hs)
   (by rw[e1,e2,R,hu];exact RJ hp hd (E8 hp) hS hd0 hl hN) t1 t2
end
theorem hH{d:LI}{Kd:Nat}(hd:u Kd d)(hd0:d ≠ []):∀ (f:Nat) (p:LI) (J:Nat),p.length<=f->u J p->J+(p.length+1-d.length)*(Kd+1)<1000000->p.length<=1048576 ->
  Ar (.loop Qr) (JX (p.map V) (d.map V) (V (X d))) (.exit 0) (JX ((Ed f p d).map V) (d.map V) (V (X d))):=by
 have hdl:=Am.2 hd0;intro f;induction f with
 | zero =>
  intro p J hf _ _ _;exact Ao (fY (p.map V) (d.map V) (V (X d)) (by rw[decide_eq_false_iff_not,N,N];omega)) (by nofun)
 | succ f ih =>
  intro p J hf hJ hS hN;simp only[Ed];split
  ·rename_i hl;have hplen:=Jt hd0 hl;have e:((DH p d).length+1-d.length)+1<=p.length+1-d.length:=by omega
   have:=AE (Kd+1) e;rw[DY,Fe] at this;have h1:=gZ hJ hd (by
    have h2:1*(Kd+1)<=(p.length+1-d.length)*(Kd+1):=AE _ (by omega);omega) hd0 hl hN
   exact C1.loop h1 (ih (DH p d) (J+Kd+1) (by omega) (SP hJ hd) (by omega) (by omega))
  ·rename_i hl;exact Ao (fY (p.map V) (d.map V) (V (X d)) (by rw[decide_eq_false_iff_not,N,N];omega)) (by nofun)
theorem aK{x y:LI}(hy:A9l y ≠ []):BB x (A9l y)=BB x (prim y):=by
 unfold BB;rw[<- L9 y,aE (by have:=Jb hy;omega)]
theorem QN{rs ss:List Rn}{J K:Nat}(hr:∀ r∈rs,AO J r)(hs:∀ r∈ss,AO K r)(hJ:J<1000000)(hK:K<1000000)(hn:rs.length<=1048576)(hm:ss.length<=1048576)(h0:A9l (P ss) ≠ [])(hS:J+((A9l (P rs)).length+1-(A9l (P ss)).length)*(K+1)<1000000) :
  RQ 119 [Y pc rs,Y pc ss] (gW (BB (prim (P rs)) (prim (P ss)))):=by
 have p1:=Ib hr hJ hn;have p2:=Fj (fun r h=>(hs r h).mono (show K<=1048576 by omega)) hm;have k1:u J (prim (P rs)):=(Jd (CP hr)).prim;have k2:u K (A9l (P ss)):=(Jd (CP hs)).trim;have l1:(prim (P rs)).length<=rs.length:=by rw[Ca];have:=Bp (P rs);rwa [A9z] at this
 have l2:(A9l (P ss)).length<=ss.length:=by have:=Bp (P ss);rwa [A9z] at this
 have hl:=Am.2 h0;have hlp:=hH k2 h0 (prim (P rs)).length (prim (P rs)) J (Ap _) k1 (by rw[Ca];exact hS) (by omega);have e1:I O (((((A9l (P ss)).map V).length:Nat):Int)-1)=(((A9l (P ss)).length-1:Nat):Int):=by rw[N,Bl (by omega) (by omega)];omega
 rw[<- aK h0];exact Aup rs ss _ _ ((BB (prim (P rs)) (A9l (P ss))).map V) (V (X (A9l (P ss)))) (E3 p1) (E3 p2) (by rw[e1,N];omega) (by
  rw[e1,R,Fa (show (A9l (P ss)).length-1<(A9l (P ss)).length by omega)];exact hlp)
theorem WM:∀ (f:Nat) (x y:LI) (M:Nat),0<M->y.length<=f->y.length<=x.length->x.length<=1048576->prim x=x->prim y=y->u (M-1) x->u (M-1) y->M*Je x.length y.length<=500000 ->
  ∃ bs,Ar (.loop Qo) (JY (x.map V) (y.map V)) (.exit 0) (JY ((Ia f x y).map V) bs):=by
 intro f;induction f with
 | zero =>
  intro x y M _ h1 _ _ _ _ _ _ _;have:y=[]:=A7 (by omega);subst this;exact⟨_,Ao (gA _ _ (by simp)) (by nofun)⟩
 | succ f ih =>
  intro x y M hM h1 h2 h3 px py kx ky hphi;simp only[Ia];split
  ·rename_i h;subst h;exact⟨_,Ao (gA _ _ (by simp)) (by nofun)⟩
  ·rename_i h;have hyl:=Am.2 h;obtain⟨r1,r2,r3⟩:=K9 hM (Cv px) h kx ky h2;have hM':0<M*(x.length-y.length+2):=E9 hM (by omega);have hMle:M<=M*(x.length-y.length+2):=Cf M (by omega);have hbig:M*(x.length-y.length+2)<=500000:=by
    refine Bx (AAd _ ?_) hphi;unfold Je;exact Cf _ (C9 (by decide))
   have hrem:=QN (rs:=x.map V) (ss:=y.map V) (AR kx) (AR ky) (by omega) (by omega) (by rw[N];exact h3) (by rw[N];omega) (by rw[AJ,Cv py];exact h) (by
    rw[AJ,AJ,Cv px,Cv py,LA hM,show x.length+1-y.length=x.length-y.length+1 by omega,CZ _ M];have:M*(x.length-y.length+2)=M*(x.length-y.length+1)+M:=by rw[<- PA]
    omega)
   rw[AJ,AJ,px,py] at hrem;have k:=fZ (x.map V) (y.map V) _ (by simp;omega) hrem;obtain⟨bs,hb⟩:=ih y (BB x y) (M*(x.length-y.length+2)) hM' (by omega) (by omega) (by omega) py (Io _ _ _ px) (ky.mono (by omega)) r3 (KA r2 hphi);exact⟨bs,C1.loop k hb⟩
theorem PY{rs ss:List Rn}{g:LI}{bs:List Rn}{K:Nat}(hr:∀ r∈rs,AO K r)(hs:∀ r∈ss,AO K r)(hK:K<1000000)(hn:rs.length<=1048576)(hm:ss.length<=1048576){Kg:Nat}(hg:u Kg g)(hgL:BZ g)(hKg:Kg<=1048576)(hgl:g.length<=1048576)
  (hl:Ar (.loop Qo) (JY ((prim (P rs)).map V) ((prim (P ss)).map V)) (.exit 0) (JY (g.map V) bs)) :
  Nt 70 [Y pc rs,Y pc ss] (AAc g):=by
 have p1:=Ib hr hK hn;have p2:=Ib hs hK hm;obtain⟨q1,q2⟩:=Nw hg hgL hKg hgl;by_cases h:X g<0
 ·exact .inl (Acd rs ss _ _ (g.map V) bs _ (E3 p1) (E3 p2) hl (q1 h))
 ·rw[Pv h];exact .inr (Ace rs ss _ _ (g.map V) bs (E3 p1) (E3 p2) hl (q2 h))
theorem RK{rs ss:List Rn}{K c:Nat}(hr:∀ r∈rs,AO K r)(hs:∀ r∈ss,AO K r)(hn:rs.length<=c)(hm:ss.length<=c)(hc:c<=1048576)(hS:(K+1)*(2*3^c)<=500000) :
  Nt 70 [Y pc rs,Y pc ss] (AAc (NC (prim (P rs)) (prim (P ss)))):=by
 have h3:0<3^c:=C9 (by decide);have hK:K+1<=500000:=by
  have:(K+1)*1<=(K+1)*(2*3^c):=AAd _ (by omega);omega
 have k1:u K (prim (P rs)):=(Jd (CP hr)).prim;have k2:u K (prim (P ss)):=(Jd (CP hs)).prim;have l1:(prim (P rs)).length<=rs.length:=by rw[Ca];have:=Bp (P rs);rwa [A9z] at this
 have l2:(prim (P ss)).length<=ss.length:=by rw[Ca];have:=Bp (P ss);rwa [A9z] at this
 unfold NC;split
 ·rename_i hl;have hphi:(K+1)*Je (prim (P rs)).length (prim (P ss)).length<=500000:=Bx (AAd _ (OE hl (by omega))) hS;obtain⟨bs,hb⟩:=WM (prim (P ss)).length (prim (P rs)) (prim (P ss)) (K+1) (by omega) (Ap _) hl (by omega) (Cb _) (Cb _) k1 k2 hphi;obtain⟨s1,s2⟩:=LG (prim (P ss)).length (prim (P rs)) (prim (P ss)) (K+1) (by omega) (Ap _) hl (Cq _) (Cq _) k1 k2;exact PY hr hs (by omega) (by omega) (by omega) s1 (Cv (LF _ _ _ (Cb _) (Cb _))) (by omega) (by omega) hb
 ·rename_i hl;have hphi:(K+1)*Je (prim (P ss)).length (prim (P rs)).length<=500000:=Bx (AAd _ (OE (by omega) (by omega))) hS;obtain⟨bs,hb⟩:=WM (prim (P rs)).length (prim (P ss)) (prim (P rs)) (K+1) (by omega) (Ap _) (by omega) (by omega) (Cb _) (Cb _) k2 k1 hphi;obtain⟨s1,s2⟩:=LG (prim (P rs)).length (prim (P ss)) (prim (P rs)) (K+1) (by omega) (Ap _) (by omega) (Cq _) (Cq _) k2 k1;have hy0:prim (P ss) ≠ []:=by intro h;rw[h] at hl;simp at hl
  have hsw:BB (prim (P rs)) (prim (P ss))=prim (P rs):=by
   unfold BB;cases hx:(prim (P rs)).length with
   | zero=>rfl
   | succ n=>simp only[Ed];rw[if_neg hl]
  have hrem:=QN (rs:=(prim (P rs)).map V) (ss:=(prim (P ss)).map V) (AR k1) (AR k2) (by omega) (by omega) (by rw[N];omega) (by rw[N];omega) (by rw[AJ,Cq];exact hy0) (by
   rw[AJ,AJ,Cq,Cq,show (prim (P rs)).length+1-(prim (P ss)).length=0 by omega,Tx];omega)
  rw[AJ,AJ,Cb,Cb,hsw] at hrem;have k:=fZ ((prim (P rs)).map V) ((prim (P ss)).map V) _ (by rw[decide_eq_true_eq,N];omega) hrem;exact PY hr hs (by omega) (by omega) (by omega) s1 (Cv (LF _ _ _ (Cb _) (Cb _))) (by omega) (by omega) (C1.loop k hb)
section
variable {p d:LI} {J Kd:Nat}
theorem Avv{t:Int}{l:Rn}{rs ds:List Rn}{q:Int}(hp:u J p)(ht:Br Kd t)(hS:J+Kd<1000000)(hN:p.length<=1048576) :
  Ar (.loop Pa) (Js rs ds (V t) p.length (p.map V) l q 0) (.exit 2) (Js rs ds (V t) p.length ((A0 t p).map V) l q (p.length:Nat)):=by
 have hE:((A0 t p).map V).length=(p.map V).length:=by rw[N,N,Bc]
 have hpl:(p.map V).length=p.length:=N ..;have h:=C1.up (prog:=AZ) (c:=Pa) (ex := .exit 2) (fin:=Js rs ds (V t) p.length ((A0 t p).map V) l q (p.length:Nat))
  (fun i=>Js rs ds (V t) p.length (FC ((A0 t p).map V) (p.map V) i) l q (i:Nat)) p.length (by nofun) ?_ ?_ 0 (By _)
 ·rw[Nr] at h;exact h
 ·intro i hi;have ei:I O ((i:Int)+1)=((i+1:Nat):Int):=by rw[Bl (by omega) (by omega)];omega
  have hml:=H0 hE i;have hget:=Mx hE (i:=i) (by omega);have hEi:((A0 t p).map V).getD i z0=V ((A0 t p).getD i 0):=Fa (by rw[Bc];exact hi);have hset:=My hE (i:=i) (by omega);rw[hEi,AK] at hset;have gp:=Bk (AR hp) i;have gt:=BL ht;have m:=Gc p i;have m1:=WL gp gt (by omega);generalize FC ((A0 t p).map V) (p.map V) i=M at *
  have k:=Acf rs ds (V t) p.length M l q (i:Nat) (by simp;omega) (by omega) (by omega) (by rw[R,hget];exact m1);refine k.to rfl ?_;simp only[ei,R,hget];rw[m,A9y,AA,hset]
 ·rw[show FC ((A0 t p).map V) (p.map V) p.length=(A0 t p).map V by have h:=Ns hE;rw[hpl] at h;exact h];exact Acg _ _ _ _ _ _ _ _ (by simp)
theorem Avw{b:Int}{k:Nat}{os:List Rn}(hp:u J p)(hd:u Kd d)(hb:Br J b)(hS:J+Kd+1<1000000)(hd0:d ≠ [])(hl:d.length<=p.length)(hN:p.length<=1048576) :
  Ar (.loop MP) (Hy (p.map V) (d.map V) (V (X d)) k os (V b) ((p.length-d.length:Nat):Int) 0 [] 0) (.exit 4)
   (Hy (p.map V) (d.map V) (V (X d)) k os (V b) ((p.length-d.length:Nat):Int) (p.length-1) (pc ((CD p d (X d) b (p.length-1)).map V)) ((p.length-1:Nat):Int)):=by
 have hdl:=Am.2 hd0;have hlm:(p.map V).length=p.length:=N ..;have hld:(d.map V).length=d.length:=N ..;have e1:I O ((((p.map V).length:Nat):Int)-1)=((p.length-1:Nat):Int):=by rw[hlm,Bl (by omega) (by omega)];omega
 have h:=C1.up (prog:=AZ) (c:=MP) (ex := .exit 4) (fin:=Hy (p.map V) (d.map V) (V (X d)) k os (V b) ((p.length-d.length:Nat):Int) (p.length-1) (pc ((CD p d (X d) b (p.length-1)).map V)) ((p.length-1:Nat):Int))
  (fun i=>Hy (p.map V) (d.map V) (V (X d)) k os (V b) ((p.length-d.length:Nat):Int) i (pc ((Aq i).map fun j=>V (NK p d (X d) b j))) (i:Nat)) (p.length-1) (by nofun) ?_ ?_ 0 (By _)
 ·exact h
 ·intro i hi;have ei:I O ((i:Int)+1)=((i+1:Nat):Int):=by rw[Bl (by omega) (by omega)];omega
  have gp:=Bk (AR hp) i;have ga:=BL (E8 hd);have gb:=BL hb;have m:=Gc p i;have m1:=WL ga gp (by omega);have va:=A9y (X d);by_cases hat:p.length-d.length<=i
  ·have ea:I O ((i:Int)-((p.length-d.length:Nat):Int))=((i-(p.length-d.length):Nat):Int):=by rw[Bl (by omega) (by omega)];omega
   have gq:=Bk (AR hd) (i-(p.length-d.length));have vq:=Gc d (i-(p.length-d.length));have m2:=WL gb gq (by omega);have f1:Br (Kd+J) (Q (V (X d))*Q ((p.map V).getD i z0)):=ga.fits.mul gp.fits;have f2:Br (J+Kd) (Q (V b)*Q ((d.map V).getD (i-(p.length-d.length)) z0)):=gb.fits.mul gq.fits;have m3:=Avu (BL f1) (BL f2) (by omega) (by omega);rw[A9y (Q (V (X d))*_),A9y (Q (V b)*Q ((d.map V).getD (i-(p.length-d.length)) z0))] at m3;have k:=Ach (p.map V) (d.map V) (V (X d)) k os (V b) ((p.length-d.length:Nat):Int) i (pc ((Aq i).map fun j=>V (NK p d (X d) b j))) (i:Nat) (by rw[e1,decide_eq_true_eq];omega) (by rw[decide_eq_true_eq];omega) (by omega) (by rw[ea];omega) (by omega)
    (by rw[R];exact m1) (by rw[ea,R];exact m2) (by rw[ea,R,R];exact m3)
   refine k.to rfl ?_;rw[ea,R,R,ei];rw[<- Gz (NK p d (X d) b) i];unfold NK;rw[if_pos hat,va,m,A9y,vq]
  ·have k:=Aci (p.map V) (d.map V) (V (X d)) k os (V b) ((p.length-d.length:Nat):Int) i (pc ((Aq i).map fun j=>V (NK p d (X d) b j))) (i:Nat) (by rw[e1,decide_eq_true_eq];omega) (by rw[decide_eq_false_iff_not];omega) (by omega) (by omega)
    (by rw[R];exact m1)
   refine k.to rfl ?_;rw[R,ei];rw[<- Gz (NK p d (X d) b) i];unfold NK;rw[if_neg hat,va,m]
 ·show C1 _ _ (Hy _ _ _ _ _ _ _ _ (pc ((Aq (p.length-1)).map fun j=>V (NK p d (X d) b j))) _) _ _;rw[gY];exact Acj _ _ _ _ _ _ _ _ _ _ (by rw[e1,decide_eq_false_iff_not];omega)
end
theorem hO{d:LI}{Kd:Nat}(hd:u Kd d)(hd0:d ≠ []):∀ (f:Nat) (r out:LI) (J:Nat),r.length<=f->u J r->u J out->J+(r.length+1-d.length)*(Kd+1)<1000000->r.length+1<=out.length+d.length->out.length<=1048576->r.length<=1048576 ->
  (∃ r',Ar (.loop Vz) (QJ (r.map V) (d.map V) (V (X d)) out.length (out.map V)) (.exit 0) (QJ r' (d.map V) (V (X d)) out.length ((KX d f r out).map V)))/\u (J+(r.length+1-d.length)*(Kd+1)) (KX d f r out)/\(KX d f r out).length=out.length:=by
 have hdl:=Am.2 hd0;have hld:(d.map V).length=d.length:=N ..;intro f;induction f with
 | zero =>
  intro r out J hf _ ho _ _ _ _;exact⟨⟨_,Ao (gB (r.map V) (d.map V) (V (X d)) out.length (out.map V) (by rw[decide_eq_false_iff_not,N,N];omega)) (by nofun)⟩,ho.mono (PB _ _),rfl⟩
 | succ f ih =>
  intro r out J hf hJ ho hS hlo hN1 hN;have hlm:(r.map V).length=r.length:=N ..;simp only[KX];split
  ·rename_i hl;have e1:I O ((((r.map V).length:Nat):Int)-1)=((r.length-1:Nat):Int):=by rw[hlm,Bl (by omega) (by omega)];omega
   have e2:I O ((((r.map V).length:Nat):Int)-(((d.map V).length:Nat):Int))=((r.length-d.length:Nat):Int):=by rw[hlm,hld,Bl (by omega) (by omega)];omega
   have hlen:=Mv hd0 hl;have e:((A9l (CD r d (X d) (X r) (r.length-1))).length+1-d.length)+1<=r.length+1-d.length:=by omega
   have hmul:=AE (Kd+1) e;rw[DY,Fe] at hmul;have hsz:J+Kd+1<1000000:=by omega
   have kE:u (J+Kd+1) (CD r d (X d) (X r) (r.length-1)):=R9 hJ hd (E8 hd) (E8 hJ) _;have hlE:=El r d (X d) (X r) (r.length-1);have hps:=SV ho (E8 hd);have ht:=Fj (rs:=(CD r d (X d) (X r) (r.length-1)).map V) (fun x hx=>(AR kE x hx).mono (by omega)) (by rw[N];omega);(first|rw[AJ,N,hlE] at ht|(rw[AJ] at ht;unfold Y at ht;rw[N,hlE] at ht));have hu:(r.map V).getD (r.length-1) z0=V (X r):=Fa (by omega);have hset:((A0 (X d) out).map V).set (r.length-d.length) (V (X r))=((A0 (X d) out).set (r.length-d.length) (X r)).map V:=by rw[Ayz]
   obtain⟨⟨r',hr'⟩,kb,len⟩:=ih (A9l (CD r d (X d) (X r) (r.length-1))) ((A0 (X d) out).set (r.length-d.length) (X r)) (J+Kd+1) (by omega) kE.trim (uR (hps.mono (by omega)) ((E8 hJ).mono (by omega)) _) (by omega) (by rw[A_,Bc];omega) (by rw[A_,Bc];exact hN1) (by omega);rw[A_,Bc] at hr' len;refine⟨⟨r',C1.loop ?_ hr'⟩,kb.mono (by omega),len⟩;have k:=Auq (r.map V) (d.map V) (V (X d)) out.length (out.map V) ((A0 (X d) out).map V) ((CD r d (X d) (X r) (r.length-1)).map V) _ (r.length-1) (out.length:Nat) ((r.length-1:Nat):Int) (by rw[decide_eq_true_eq];omega) (by rw[e1];omega)
    (by rw[e1,e2,R,hu];exact Avv ho (E8 hd) (by omega) hN1) (by rw[e2];omega) (by rw[N,Bc])
    (by rw[e1,e2,R,R,hu];exact Avw hJ hd (E8 hJ) hsz hd0 hl hN) (E3 ht)
   rw[e1,e2,R,R,hu,hset] at k;exact k
  ·rename_i hl;exact⟨⟨_,Ao (gB (r.map V) (d.map V) (V (X d)) out.length (out.map V) (by rw[decide_eq_false_iff_not,N,N];omega)) (by nofun)⟩,ho.mono (PB _ _),rfl⟩
theorem qS{p q:LI}{J K:Nat}(hp:u J p)(hq:u K q)(lp:BZ p)(lq:BZ q)(hq0:q ≠ [])(tq:0<X q)(tp:0<X p)(hl:q.length<=p.length)(hN:p.length<=1000000)(hS:J+(p.length+1-q.length)*(K+1)<1000000) :
  RQ 123 [H (p.map V).length (pc (p.map V)),H (q.map V).length (pc (q.map V))] (gW (prim (KX q p.length p (At (p.length-q.length+1) 0)))):=by
 have hql:=Am.2 hq0;have hlp:(p.map V).length=p.length:=N ..;have hlq:(q.map V).length=q.length:=N ..;have h1:1*(K+1)<=(p.length+1-q.length)*(K+1):=AE _ (by omega);have t1:=Fj (rs:=p.map V) (fun r h=>(AR hp r h).mono (show J<=1048576 by omega)) (by omega);have t2:=Fj (rs:=q.map V) (fun r h=>(AR hq r h).mono (show K<=1048576 by omega)) (by omega);rw[AJ,lp] at t1;rw[AJ,lq] at t2;have hz:(At (p.length-q.length+1) (0:Int)).map V=At (p.length-q.length+1) z0:=by rw[A9c,Avt]
 obtain⟨⟨r',hlp2⟩,kb,len⟩:=hO hq hq0 p.length p (At (p.length-q.length+1) 0) J (Ap _) hp (fun i=>by rw[DA];exact GZ _) hS (by simp;omega) (by simp;omega) (by omega);rw[Fi] at hlp2 len;obtain⟨c',r1,a1,a2,_,a4⟩:=OF (p:=p) hq0 tq hl;have tO:=YO a1 tp hq0 tq hl len a4 a2;generalize KX q p.length p (At (p.length-q.length+1) 0)=o at *
 have e1:I O ((((q.map V).length:Nat):Int)-1)=((q.length-1:Nat):Int):=by rw[hlq,Bl (by omega) (by omega)];omega
 have e2:I O (I O ((((p.map V).length:Nat):Int)-(((q.map V).length:Nat):Int))+1)=((p.length-q.length+1:Nat):Int):=by
  rw[hlp,hlq,Bl (n:=(p.length:Int)-(q.length:Nat)) (by omega) (by omega),Bl (by omega) (by omega)];omega
 have t3:=Fj (rs:=o.map V) (fun r h=>(AR kb r h).mono (by omega)) (by rw[N];omega);(first|rw[AJ,N,len] at t3|(rw[AJ] at t3;unfold Y at t3;rw[N,len] at t3));have htl:=Bp o;have p3:=Ib (rs:=(A9l o).map V) (AR kb.trim) (by omega) (by rw[N];omega);rw[AJ,Mu (Dk o)] at p3;have hpl:(prim o).length<=o.length:=by rw[Ca];exact htl
 have hps:=(Nw (p:=prim o) kb.prim (Cq o) (by omega) (by omega)).2 (by have:=PU tO;omega);exact Aur (p.map V) (q.map V) (p.map V) (q.map V) r' (o.map V) _ _ (V (X q)) (p.length-q.length+1) (E3 t1) (E3 t2) (by rw[e1,hlq];omega) (by rw[e2];omega)
  (by rw[e1,e2,R,R,Oy,<- hz,Fa (show q.length-1<q.length by omega)];exact hlp2) (E3 t3) (E3 p3) hps
theorem Adi{p:LI}{c:Int}(hc:0<c)(hp:prim p=p)(hl:1<=p.length):prim (KX [c] p.length p (At (p.length-1+1) 0))=p:=by
 obtain⟨c',r',a1,a2,_,a4⟩:=OF (p:=p) (d:=[c]) (by simp) (show 0<X [c] from hc) hl;have lq:BZ [c]:=R8 (.inr (by show c ≠ 0;omega));have h:=RB a1 hc (RA (o2:=p) (r2:=[]) (c2:=c) lq (by simp) a4 (fun x=>by simp[Aa]) a2 (fun i _=>rfl));rw[hp] at h;exact h
theorem RL{rs:List Rn}{K c:Nat}(hr:∀ r∈rs,AO K r)(hn:rs.length<=c)(hc:c<=9)(hS:(K+3)*(2*3^c)<=500000):RQ 73 [Y pc rs] (gW (A9k (P rs))):=by
 have h3:0<3^c:=C9 (by decide);have hK:K+3<=250000:=by
  have:(K+3)*2<=(K+3)*(2*3^c):=AAd _ (by omega);omega
 have p1:=E3 (Ib hr (by omega) (by omega));have k1:u K (prim (P rs)):=(Jd (CP hr)).prim;have l1:(prim (P rs)).length<=rs.length:=by rw[Ca];have:=Bp (P rs);rwa [A9z] at this
 obtain⟨q1,q2⟩:=Nw k1 (Cq _) (by omega) (by omega);have ka:u K (AAc (prim (P rs))):=by
  unfold AAc;split
  ·intro i;rw[G_];exact (k1 i).neg
  ·exact k1
 have la:=Kt (prim (P rs));have lda:BZ (AAc (prim (P rs))):=Np (Cq _);have hpp:(¬ X (prim (P rs))<0)->AAc (prim (P rs))=prim (P rs):=Pv;have hder:=YR (rs:=(AAc (prim (P rs))).map V) (AR ka) (by omega) (by rw[N];omega);rw[AJ] at hder;have hder':=E3 hder;have kd:u (K+2) (As (AAc (prim (P rs)))):=WJ ka (by omega);have ld:(As (AAc (prim (P rs)))).length<=c:=by have:=SU (AAc (prim (P rs)));omega
 have hcom:=RK (rs:=(AAc (prim (P rs))).map V) (ss:=(As (AAc (prim (P rs)))).map V) (K:=K+2) (c:=c) (fun r h=>(AR ka r h).mono (by omega)) (AR kd) (by rw[N];omega) (by rw[N];exact ld) (by omega) hS;rw[AJ,AJ] at hcom;change Nt 70 _ (B3 (AAc (prim (P rs))) (As (AAc (prim (P rs))))) at hcom;have hover:2<=(AAc (prim (P rs))).length->RQ 123 [H ((AAc (prim (P rs))).map V).length (pc ((AAc (prim (P rs))).map V)),H ((B3 (AAc (prim (P rs))) (As (AAc (prim (P rs))))).map V).length (pc ((B3 (AAc (prim (P rs))) (As (AAc (prim (P rs))))).map V))] (gW (A9k (P rs))):=by
  intro h2;have hp0:A9l (P rs) ≠ []:=by
   intro h0;have:prim (P rs)=[]:=DG.2 (Dd.1 h0);rw[this] at h2;exact absurd h2 (by decide)
  obtain⟨a1,a2,a3,a4,_,_⟩:=RI hp0;have hta:A9l (AAc (prim (P rs))) ≠ []:=C7 a1 a2;obtain⟨b1,b2⟩:=gP (t:=As (AAc (prim (P rs)))) hta (by omega) ka;rw[a1] at b2;have nG:=G7 (t:=As (AAc (prim (P rs)))) hta;have lG:=Ee (AAc (prim (P rs))) (As (AAc (prim (P rs))));have tG:=KB (t:=As (AAc (prim (P rs)))) hta;have h:=qS ka b1 lda lG nG tG a4 b2 (by omega) (by
   have h4:(AAc (prim (P rs))).length+1-(B3 (AAc (prim (P rs))) (As (AAc (prim (P rs))))).length<=10:=by omega
   have h5:=AE (K+3+1) h4;have h6:3^2<=3^c:=B8 (by decide) (by omega);have h7:(K+3)*18<=(K+3)*(2*3^c):=AAd _ (by omega);omega)
  have e:prim (KX (B3 (AAc (prim (P rs))) (As (AAc (prim (P rs))))) (AAc (prim (P rs))).length (AAc (prim (P rs))) (At ((AAc (prim (P rs))).length-(B3 (AAc (prim (P rs))) (As (AAc (prim (P rs))))).length+1) 0))=A9k (P rs):=by
   unfold A9k;by_cases hg:(B3 (AAc (prim (P rs))) (As (AAc (prim (P rs))))).length<2
   ·rw[if_pos (.inr hg)];have hgl:=Am.2 nG;obtain⟨c,hc⟩:=M1 (show (B3 (AAc (prim (P rs))) (As (AAc (prim (P rs))))).length=1 by omega);rw[hc] at tG |-;exact Adi tG (Jx a1 a3) (by omega)
   ·rw[if_neg (by omega)];exact (Avk lG nG tG b2).symm
  rw[e] at h;exact h
 by_cases hs:(AAc (prim (P rs))).length<2
 ·have e:A9k (P rs)=AAc (prim (P rs)):=by unfold A9k;rw[if_pos (.inl hs)]
  rw[e];by_cases ht:X (prim (P rs))<0
  ·exact ZX rs _ _ (by rw[decide_eq_true_eq,N];omega) p1 (q1 ht)
  ·rw[hpp ht] at hs |-;exact Z_ rs _ (by rw[decide_eq_true_eq,N];omega) p1 (q2 ht)
 ·have hover:=hover (by omega);by_cases ht:X (prim (P rs))<0
  ·rcases hcom with h | h
   ·exact ZY rs _ _ _ _ _ (by rw[decide_eq_false_iff_not,N];omega) p1 (q1 ht) hder' h hover
   ·exact ZZ rs _ _ _ _ _ (by rw[decide_eq_false_iff_not,N];omega) p1 (q1 ht) hder' h hover
  ·rw[hpp ht] at *
   rcases hcom with h | h
   ·exact Z' rs _ _ _ _ (by rw[decide_eq_false_iff_not,N];omega) p1 (q2 ht) hder' h hover
   ·exact aA rs _ _ _ _ (by rw[decide_eq_false_iff_not,N];omega) p1 (q2 ht) hder' h hover
def DN:Nat->LI->LI->List (LI)
 | 0,_,_=>[]
 | f+1,a,b=>if b=[] then [] else b::DN f b (Ci (BB a b))
def BW(p:LI):List (LI):=if A9k p=[] then [] else A9k p::DN (A9k p).length (A9k p) (prim (As (A9k p)))
theorem Kc{p:LI}(h:prim p=p):prim (Ci p)=Ci p:=by
 by_cases h0:p=[]
 ·subst h0;rfl
 ·have hl:BZ p:=Cv h;have h1:=KW (xs:=p) (by rw[hl];exact h0);rw[h] at h1;exact Jx (Ie hl) (by rw[WF];exact h1)
theorem WN{K:Nat}{p:LI}(h:u K p):u K (Ci p):=fun i=>by rw [G_];exact (h i).neg
def DK(l:List (LI)):List (List Rn):=l.map fun p=>p.map V
theorem iA(ls:List (List Rn))(rs:List Rn):z ls++([Y pc rs]:List AV)=z (ls++[rs]):=by simp [z]
def uS(p:LI):Prop:=u 500000 p/\p.length<=9/\BZ p
theorem aL:∀ (f:Nat) (x y:LI) (M:Nat),0<M->y.length<=x.length->x.length<=9->prim x=x->prim y=y->u (M-1) x->u (M-1) y->M*Je x.length y.length<=500000 ->
  ∀ p∈DN f x y,uS p:=by
 intro f;induction f with
 | zero=>intro x y M _ _ _ _ _ _ _ _ p hp;cases hp
 | succ f ih =>
  intro x y M hM h2 h3 px py kx ky hphi p hp;simp only[DN] at hp;split at hp
  ·cases hp
  ·rename_i h;obtain⟨r1,r2,r3⟩:=K9 hM (Cv px) h kx ky h2;have hM':0<M*(x.length-y.length+2):=E9 hM (by omega);have hMle:M<=M*(x.length-y.length+2):=Cf M (by omega);have hb:M*1<=M*Je x.length y.length:=AAd _ (by unfold Je;exact E9 (by omega) (C9 (by decide)));rcases D4.1 hp with rfl | hp
   ·exact⟨ky.mono (by omega),by omega,Cv py⟩
   ·exact ih y (Ci (BB x y)) (M*(x.length-y.length+2)) hM' (by rw[DR];omega) (by omega) py (Kc (Io _ _ _ px)) (ky.mono (by omega)) (WN r3) (by rw[DR];exact KA r2 hphi) p hp
theorem TT:∀ (f:Nat) (x y:LI),(DN f x y).length<=f
 | 0,_,_=>Ap _
 | f+1,x,y=>by
  simp only[DN];split
  ·simp
  ·have:=TT f y (Ci (BB x y));simp;omega
theorem iB:∀ (f:Nat) (x y:LI) (M:Nat) (ls:List (List Rn)),0<M->y.length<=f->y.length<=x.length->x.length<=9->prim x=x->prim y=y->u (M-1) x->u (M-1) y->M*Je x.length y.length<=500000->ls.length+f<=1000 ->
  ∃ as' bs',Ar (.loop Yp) (PS (x.map V) ls.length (z ls) (y.map V)) (.exit 0) (PS as' (ls++DK (DN f x y)).length (z (ls++DK (DN f x y))) bs'):=by
 intro f;induction f with
 | zero =>
  intro x y M ls _ h1 _ _ _ _ _ _ _ _;have:y=[]:=A7 (by omega);subst this;have e:ls++DK (DN 0 x [])=ls:=by simp[DK,DN]
  rw[e];exact⟨_,_,Ao (uM _ _ _ _ (by simp)) (by nofun)⟩
 | succ f ih =>
  intro x y M ls hM h1 h2 h3 px py kx ky hphi hls;simp only[DN];split
  ·rename_i h;subst h;have e:ls++DK []=ls:=by simp[DK]
   rw[e];exact⟨_,_,Ao (uM _ _ _ _ (by simp)) (by nofun)⟩
  ·rename_i h;have hyl:=Am.2 h;obtain⟨r1,r2,r3⟩:=K9 hM (Cv px) h kx ky h2;have hM':0<M*(x.length-y.length+2):=E9 hM (by omega);have hMle:M<=M*(x.length-y.length+2):=Cf M (by omega);have hbig:M*(x.length-y.length+2)<=500000:=by
    refine Bx (AAd _ ?_) hphi;unfold Je;exact Cf _ (C9 (by decide))
   have hrem:=Ka (rs:=x.map V) (ss:=y.map V) (AR kx) (AR ky) (by omega) (by omega) (by rw[N];omega) (by rw[N];omega) (by rw[AJ,py];exact h) (by
    rw[AJ,AJ,px,py,LA hM,show x.length+1-y.length=x.length-y.length+1 by omega,CZ _ M];have:M*(x.length-y.length+2)=M*(x.length-y.length+1)+M:=by rw[<- PA]
    omega)
   rw[AJ,AJ,px,py] at hrem;have hneg:=KV (rs:=(BB x y).map V) (fun r hr=>(AR r3 r hr).mono (by omega)) (by rw[N];omega);rw[AJ] at hneg;have hneg':RQ 117 [H ((BB x y).map V).length (pc ((BB x y).map V))] (L 2 ((Ci (BB x y)).map V).length (pc ((Ci (BB x y)).map V))):=by
    have e:((Ci (BB x y)).map V).length=((BB x y).map V).length:=by rw[N,N,DR]
    rw[e];exact hneg
   have k:=A2q (x.map V) ls.length (z ls) (y.map V) _ _ (by simp;omega) (by omega) (E3 hrem) hneg';rw[iA] at k;obtain⟨as',bs',hb⟩:=ih y (Ci (BB x y)) (M*(x.length-y.length+2)) (ls++[y.map V]) hM' (by rw[DR];omega) (by rw[DR];omega) (by omega) py (Kc (Io _ _ _ px)) (ky.mono (by omega)) (WN r3) (by rw[DR];exact KA r2 hphi) (by rw[Bf];simp;omega);have e:ls++[y.map V]++DK (DN f y (Ci (BB x y)))=ls++DK (y::DN f y (Ci (BB x y))):=by simp[DK]
   rw[e] at hb;have el:(ls++[y.map V]).length=ls.length+1:=by simp
   rw[el] at hb;exact⟨as',bs',C1.loop k hb⟩
theorem Kw{rs:List Rn}(hr:∀ r∈rs,AO 5 r)(hn:rs.length<=9)(h0:A9k (P rs) ≠ []) :
  prim (A9k (P rs))=A9k (P rs)/\u 10 (A9k (P rs))/\u 10 (As (A9k (P rs)))/\(A9k (P rs)).length<=9/\(As (A9k (P rs))).length<=(A9k (P rs)).length-1/\(prim (As (A9k (P rs)))).length<=(As (A9k (P rs))).length /\
  11*Je (A9k (P rs)).length (prim (As (A9k (P rs)))).length<=500000/\BZ (A9k (P rs)):=by
 have ht:A9l (P rs) ≠ []:=by
  intro h;have hz:prim (P rs)=[]:=by rw[DG,<- Dd];exact h
  apply h0;unfold A9k;rw[hz];rfl
 obtain⟨lf,cf,_,_,_,_,_,_⟩:=Cu ht;obtain⟨k1,k2⟩:=Y_ ht (by rw[A9z];exact hn) (Jd (CP hr));have t1:=Bp (P rs);rw[A9z] at t1;have k3:=WJ k1 (by omega);have d1:(As (A9k (P rs))).length<=(A9k (P rs)).length-1:=by
  unfold As;have:=Bp ((Aq ((A9k (P rs)).length-1)).map fun j=>(A9k (P rs)).getD (j+1) 0*((j+1:Nat):Int));rwa [N,BI] at this
 have d2:(prim (As (A9k (P rs)))).length<=(As (A9k (P rs))).length:=by rw[Ca];exact Bp _
 refine⟨Jx lf cf,k1.mono (by omega),k3.mono (by omega),by omega,d1,d2,?_,lf⟩;have:=OE (n:=(A9k (P rs)).length) (m:=(prim (As (A9k (P rs)))).length) (c:=9) (by omega) (by omega);have h3:2*3^9=39366:=by decide
 omega
theorem Kx{rs:List Rn}(hr:∀ r∈rs,AO 5 r)(hn:rs.length<=9):∀ p∈BW (P rs),uS p:=by
 intro p hp;unfold BW at hp;split at hp
 ·cases hp
 ·rename_i h0;obtain⟨p1,k1,k2,l1,l2,l3,hphi,lf⟩:=Kw hr hn h0;rcases D4.1 hp with rfl | hp
  ·exact⟨k1.mono (by omega),l1,lf⟩
  ·exact aL _ _ _ 11 (by decide) (by omega) l1 p1 (Cb _) k1 k2.prim hphi p hp
theorem Ip{rs:List Rn}(hr:∀ r∈rs,AO 5 r)(hn:rs.length<=9):(BW (P rs)).length<=10:=by
 unfold BW;split
 ·simp
 ·rename_i h0;obtain⟨_,_,_,l1,_⟩:=Kw hr hn h0;have:=TT (A9k (P rs)).length (A9k (P rs)) (prim (As (A9k (P rs))));simp;omega
theorem OH{rs:List Rn}(hr:∀ r∈rs,AO 5 r)(hn:rs.length<=9):RQ 67 [Y pc rs] (L 1 (DK (BW (P rs))).length (z (DK (BW (P rs))))):=by
 have hf:=WK hr hn (by omega) (by decide);by_cases h0:A9k (P rs)=[]
 ·have e:BW (P rs)=[]:=by unfold BW;rw[if_pos h0]
  rw[e];rw[h0] at hf;rcases hf with h | h
  ·exact fT rs [] (by decide) h
  ·exact fV rs [] (by decide) h
 ·obtain⟨p1,k1,k2,l1,l2,l3,hphi,lf⟩:=Kw hr hn h0;have e:BW (P rs)=A9k (P rs)::DN (A9k (P rs)).length (A9k (P rs)) (prim (As (A9k (P rs)))):=by unfold BW;rw[if_neg h0]
  have hd:=PV (rs:=(A9k (P rs)).map V) (AR k1) (by omega) (by rw[N];omega);rw[AJ] at hd;have hp:=Er (rs:=(As (A9k (P rs))).map V) (AR k2) (by omega) (by rw[N];omega);rw[AJ] at hp;obtain⟨as',bs',hl⟩:=iB (A9k (P rs)).length (A9k (P rs)) (prim (As (A9k (P rs)))) 11 [(A9k (P rs)).map V] (by decide) (by omega) (by omega) l1 p1 (Cb _) k1 k2.prim hphi (by simp;omega);have e2:[(A9k (P rs)).map V]++DK (DN (A9k (P rs)).length (A9k (P rs)) (prim (As (A9k (P rs)))))=DK (BW (P rs)):=by rw[e];simp[DK]
  rw[e2] at hl;have c1:(((((A9k (P rs)).map V).length:Nat):Int)==0)=false:=by
   rw[beq_eq_false_iff_ne,N];have:=Am.2 h0;omega
  rcases hf with h | h
  ·exact fU rs _ _ _ as' bs' _ c1 h (E3 hd) (E3 hp) hl
  ·exact fW rs _ _ _ as' bs' _ c1 h (E3 hd) (E3 hp) hl
theorem qT(ls:List (List Rn))(us bs:List Rn){n:Nat}(hn:n=ls.length+2)(hN:n<=1048576):Bv (z (ls++[us])++([Y pc bs]:List AV)) (A (I O ((n:Int)-2))*1) 1 true=some (Y pc us):=by
 have e:A (I O ((n:Int)-2))*1=ls.length:=by rw[Bl (by omega) (by omega)];omega
 rw[e];simp only[Bv,if_true];rw[AN (by simp[z])];simp[z]
theorem aM:∀ (f:Nat) (x y:LI) (M:Nat) (ls:List (List Rn)),0<M->y.length<=f->y.length<=x.length->x.length<=9->prim x=x->prim y=y->u (M-1) x->u (M-1) y->M*Je x.length y.length<=500000->ls.length+f<=1000 ->
  ∃ bs',Ar (.loop Vm) (O7 (ls.length+1) (z (ls++[x.map V])) (y.map V)) (.exit 0) (O7 (ls++[x.map V]++DK (DN f x y)).length (z (ls++[x.map V]++DK (DN f x y))) bs'):=by
 intro f;induction f with
 | zero =>
  intro x y M ls _ h1 _ _ _ _ _ _ _ _;have:y=[]:=A7 (by omega);subst this;have e:ls++[x.map V]++DK (DN 0 x [])=ls++[x.map V]:=by simp[DK,DN]
  rw[e,Bf];exact⟨_,Ao (fX _ _ _ (by simp)) (by nofun)⟩
 | succ f ih =>
  intro x y M ls hM h1 h2 h3 px py kx ky hphi hls;simp only[DN];split
  ·rename_i h;subst h;have e:ls++[x.map V]++DK []=ls++[x.map V]:=by simp[DK]
   rw[e,Bf];exact⟨_,Ao (fX _ _ _ (by simp)) (by nofun)⟩
  ·rename_i h;have hyl:=Am.2 h;obtain⟨r1,r2,r3⟩:=K9 hM (Cv px) h kx ky h2;have hM':0<M*(x.length-y.length+2):=E9 hM (by omega);have hMle:M<=M*(x.length-y.length+2):=Cf M (by omega);have hbig:M*(x.length-y.length+2)<=500000:=by
    refine Bx (AAd _ ?_) hphi;unfold Je;exact Cf _ (C9 (by decide))
   have hrem:=QN (rs:=x.map V) (ss:=y.map V) (AR kx) (AR ky) (by omega) (by omega) (by rw[N];omega) (by rw[N];omega) (by rw[AJ,Cv py];exact h) (by
    rw[AJ,AJ,Cv px,Cv py,LA hM,show x.length+1-y.length=x.length-y.length+1 by omega,CZ _ M];have:M*(x.length-y.length+2)=M*(x.length-y.length+1)+M:=by rw[<- PA]
    omega)
   rw[AJ,AJ,px,py] at hrem;have hneg:=YS (rs:=(BB x y).map V) (fun r hr=>(AR r3 r hr).mono (by omega)) (by rw[N];omega);rw[AJ,Ie r1] at hneg;have hls1:(ls++[x.map V]).length=ls.length+1:=by simp
   have e2:I O ((((ls.length+1+1):Nat):Int)-2)=(ls.length:Int):=by rw[Bl (by omega) (by omega)];omega
   have k:=Atv (ls.length+1) (z (ls++[x.map V])) (y.map V) (x.map V) ((BB x y).map V) _ (by simp;omega) (by omega) (by rw[e2];omega) (qT ls (x.map V) (y.map V) (by omega) (by omega)) hrem (E3 hneg);rw[iA] at k;obtain⟨bs',hb⟩:=ih y (Ci (BB x y)) (M*(x.length-y.length+2)) (ls++[x.map V]) hM' (by rw[DR];omega) (by rw[DR];omega) (by omega) py (Kc (Io _ _ _ px)) (ky.mono (by omega)) (WN r3) (by rw[DR];exact KA r2 hphi) (by rw[hls1];omega);have e:ls++[x.map V]++[y.map V]++DK (DN f y (Ci (BB x y)))=ls++[x.map V]++DK (y::DN f y (Ci (BB x y))):=by simp[DK]
   (first|rw[e,hls1] at hb|(rw[e] at hb;unfold Y at hb;rw[hls1] at hb));exact⟨bs',C1.loop k hb⟩
theorem iC{rs:List Rn}(hr:∀ r∈rs,AO 5 r)(hn:rs.length<=9):RQ 108 [Y pc rs] (L 1 (DK (BW (P rs))).length (z (DK (BW (P rs))))):=by
 have hf:=RL hr hn (by omega) (by decide);by_cases h0:A9k (P rs)=[]
 ·have e:BW (P rs)=[]:=by unfold BW;rw[if_pos h0]
  rw[e];rw[h0] at hf;exact pL rs [] (by decide) hf
 ·obtain⟨p1,k1,k2,l1,l2,l3,hphi,lf⟩:=Kw hr hn h0;have e:BW (P rs)=A9k (P rs)::DN (A9k (P rs)).length (A9k (P rs)) (prim (As (A9k (P rs)))):=by unfold BW;rw[if_neg h0]
  have hd:=YR (rs:=(A9k (P rs)).map V) (AR k1) (by omega) (by rw[N];omega);rw[AJ] at hd;have hp:=Ib (rs:=(As (A9k (P rs))).map V) (AR k2) (by omega) (by rw[N];omega);rw[AJ] at hp;obtain⟨bs',hl⟩:=aM (A9k (P rs)).length (A9k (P rs)) (prim (As (A9k (P rs)))) 11 [] (by decide) (by omega) (by omega) l1 p1 (Cb _) k1 k2.prim hphi (by simp;omega);have e2:[]++[(A9k (P rs)).map V]++DK (DN (A9k (P rs)).length (A9k (P rs)) (prim (As (A9k (P rs)))))=DK (BW (P rs)):=by rw[e];simp[DK]
  rw[e2] at hl;have c1:(((((A9k (P rs)).map V).length:Nat):Int)==0)=false:=by
   rw[beq_eq_false_iff_ne,N];have:=Am.2 h0;omega
  exact pM rs _ _ _ bs' _ c1 hf (E3 hd) (E3 hp) hl
def QO(x:Int × Int)(s:Int):Int × Int:=(if s ≠ 0/\x.2 ≠ 0/\s ≠ x.2 then x.1+1 else x.1,if s ≠ 0 then s else x.2)
def Iq(l:List (LI))(N:Int)(e:Nat)(i:Nat):Int:=BS (hv (l.getD i []) N (2^e))
def Ce(l:List (LI))(N:Int)(e:Nat):Nat->Int × Int
 | 0=>(0,0)
 | i+1=>QO (Ce l N e i) (Iq l N e i)
theorem KC(l:List (LI))(N:Int)(e:Nat):∀ i:Nat,0<=(Ce l N e i).1/\(Ce l N e i).1<=(i:Int)
 | 0=>by simp[Ce]
 | i+1=>by
  have:=KC l N e i;simp only[Ce,QO];split <;> omega
theorem Pw{l:List (LI)}{i:Nat}(h:i<l.length):(DK l).getD i []=(l.getD i []).map V:=by
 unfold DK;rw[Z,CL,Z,Ah h];rfl
theorem M2(l:List (LI)):(DK l).length=l.length:=N ..
section
variable {l:List (LI)} {r:Rn} (hl:∀ p∈l,uS p) (hr:AO 100 r) (hN:l.length<=100) (e:Nat) (he:e<=4096)
include hl hr he
theorem A3i{i:Nat}(hi:i<l.length):RQ 65 [H ((DK l).getD i []).length (pc ((DK l).getD i [])),o [F r.1,H r.2.length (W r.2),D O (e:Nat)]] (D O (Iq l (Q r) e i)):=by
 rw[Pw hi];have hm:l.getD i []∈l:=by rw[Z,Ah hi];exact CY hi
 obtain⟨h1,h2,h3⟩:=hl _ hm;have h:=Nl (rs:=(l.getD i []).map V) (AR h1) hr e (by
  rw[N];have h4:((l.getD i []).length+1)*(100+(e / 32+1)+1)<=10*230:=B2 (by omega) (by omega);omega) (by omega)
 rw[AJ] at h;exact h
theorem Adj{i:Nat}(hi:i<l.length):∃ w:Int,RQ 80 [H ((DK l).getD i []).length (pc ((DK l).getD i [])),o [F r.1,H r.2.length (W r.2)],D O (e:Nat)] (Ag w)/\RQ 79 [Ag w] (D O (Iq l (Q r) e i)):=by
 rw[Pw hi];have hm:l.getD i []∈l:=by rw[Z,Ah hi];exact CY hi
 obtain⟨h1,h2,h3⟩:=hl _ hm;have hS:500000+2+(((l.getD i []).map V).length+1)*(100+(e / 32+1)+1)<=1048576:=by
  rw[N];have h4:((l.getD i []).length+1)*(100+(e / 32+1)+1)<=10*230:=B2 (by omega) (by omega);omega
 have h:=TK (rs:=(l.getD i []).map V) (AR h1) hr e hS (by omega);rw[AJ,h3] at h;have hf:=W2 (K:=500000) hr.fits e (ts:=l.getD i []) h1.mem;have hlen:(l.getD i []).length*(100+(e / 32+1)+1)<=9*230:=B2 (by omega) (by omega);exact⟨_,h,Y5 (n:=hv (l.getD i []) (Q r) (2^e)) (by have:=hf.len;omega)⟩
theorem G0(hN:l.length<=100):RQ 68 [H (DK l).length (z (DK l)),o [F r.1,H r.2.length (W r.2),D O (e:Nat)]] (D O (Ce l (Q r) e l.length).1):=by
 have hpl:=M2 l;have h:=C1.up (prog:=AZ) (c:=T2) (ex := .exit 0) (fin:=L7 (DK l) r (e:Nat) (Ce l (Q r) e l.length).1 (Ce l (Q r) e l.length).2 (((DK l).length:Nat):Int) (l.length:Nat))
  (fun i=>L7 (DK l) r (e:Nat) (Ce l (Q r) e i).1 (Ce l (Q r) e i).2 (((DK l).length:Nat):Int) (i:Nat)) l.length (by nofun) ?_ ?_ 0 (By _)
 ·exact A2w (DK l) r (e:Nat) _ _ _ h
 ·intro i hi;have ei:I O ((i:Int)+1)=((i+1:Nat):Int):=by rw[Bl (by omega) (by omega)];omega
  have hs:=A3i hl hr e he hi;have hb:=KC l (Q r) e i;have w1:I O ((Ce l (Q r) e i).1+1)=(Ce l (Q r) e i).1+1:=Bl (by omega) (by omega);have c1:decide ((i:Int)<(((DK l).length:Nat):Int))=true:=by rw[decide_eq_true_eq];omega
  simp only[Ce,QO];by_cases g1:Iq l (Q r) e i=0
  ·rw[if_neg (fun h=>h.1 g1),if_neg (fun h=>h g1)];have k:=A2u (DK l) r (e:Nat) (Ce l (Q r) e i).1 (Ce l (Q r) e i).2 (((DK l).length:Nat):Int) (i:Nat) (Iq l (Q r) e i) c1 (by rw[bne_eq_false_iff_eq];exact g1) (by omega) (by rw[R];exact hs);rwa [ei] at k
  ·by_cases g2:(Ce l (Q r) e i).2=0
   ·rw[if_neg (fun h=>h.2.1 g2),if_pos g1];have k:=A2t (DK l) r (e:Nat) (Ce l (Q r) e i).1 (Ce l (Q r) e i).2 (((DK l).length:Nat):Int) (i:Nat) (Iq l (Q r) e i) c1 (by rw[bne_iff_ne];exact g1) (by rw[bne_eq_false_iff_eq];exact g2) (by omega) (by rw[R];exact hs);rwa [ei] at k
   ·by_cases g3:Iq l (Q r) e i=(Ce l (Q r) e i).2
    ·rw[if_neg (fun h=>h.2.2 g3),if_pos g1];have k:=A2s (DK l) r (e:Nat) (Ce l (Q r) e i).1 (Ce l (Q r) e i).2 (((DK l).length:Nat):Int) (i:Nat) (Iq l (Q r) e i) c1 (by rw[bne_iff_ne];exact g1) (by rw[bne_iff_ne];exact g2) (by rw[bne_eq_false_iff_eq];exact g3) (by omega) (by rw[R];exact hs);rwa [ei] at k
    ·rw[if_pos ⟨g1,g2,g3⟩,if_pos g1];have k:=A2r (DK l) r (e:Nat) (Ce l (Q r) e i).1 (Ce l (Q r) e i).2 (((DK l).length:Nat):Int) (i:Nat) (Iq l (Q r) e i) c1 (by rw[bne_iff_ne];exact g1) (by rw[bne_iff_ne];exact g2) (by rw[bne_iff_ne];exact g3) (by omega) (by rw[R];exact hs);rwa [ei,w1] at k
 ·exact A2v (DK l) r _ _ _ _ _ (by rw[decide_eq_false_iff_not];omega)
theorem Za(hN:l.length<=100):RQ 110 [H (DK l).length (z (DK l)),o [F r.1,H r.2.length (W r.2),D O (e:Nat)]] (D O (Ce l (Q r) e l.length).1):=by
 have hpl:=M2 l;have h:=C1.up (prog:=AZ) (c:=Oi) (ex := .exit 0) (fin:=I7 (DK l) r (e:Nat) (Ce l (Q r) e l.length).1 (Ce l (Q r) e l.length).2 (l.length:Nat))
  (fun i=>I7 (DK l) r (e:Nat) (Ce l (Q r) e i).1 (Ce l (Q r) e i).2 (i:Nat)) l.length (by nofun) ?_ ?_ 0 (By _)
 ·exact Aub (DK l) r (e:Nat) _ _ _ h
 ·intro i hi;have ei:I O ((i:Int)+1)=((i+1:Nat):Int):=by rw[Bl (by omega) (by omega)];omega
  obtain⟨w,hs,hs2⟩:=Adj hl hr e he hi;have hb:=KC l (Q r) e i;have w1:I O ((Ce l (Q r) e i).1+1)=(Ce l (Q r) e i).1+1:=Bl (by omega) (by omega);have c1:decide ((i:Int)<(((DK l).length:Nat):Int))=true:=by rw[decide_eq_true_eq];omega
  simp only[Ce,QO];by_cases g1:Iq l (Q r) e i=0
  ·rw[if_neg (fun h=>h.1 g1),if_neg (fun h=>h g1)];have k:=Atz (DK l) r (e:Nat) (Ce l (Q r) e i).1 (Ce l (Q r) e i).2 (i:Nat) w (Iq l (Q r) e i) c1 (by rw[bne_eq_false_iff_eq];exact g1) (by omega) (by rw[R];exact hs) hs2;rwa [ei] at k
  ·by_cases g2:(Ce l (Q r) e i).2=0
   ·rw[if_neg (fun h=>h.2.1 g2),if_pos g1];have k:=Aty (DK l) r (e:Nat) (Ce l (Q r) e i).1 (Ce l (Q r) e i).2 (i:Nat) w (Iq l (Q r) e i) c1 (by rw[bne_iff_ne];exact g1) (by rw[bne_eq_false_iff_eq];exact g2) (by omega) (by rw[R];exact hs) hs2;rwa [ei] at k
   ·by_cases g3:Iq l (Q r) e i=(Ce l (Q r) e i).2
    ·rw[if_neg (fun h=>h.2.2 g3),if_pos g1];have k:=Atx (DK l) r (e:Nat) (Ce l (Q r) e i).1 (Ce l (Q r) e i).2 (i:Nat) w (Iq l (Q r) e i) c1 (by rw[bne_iff_ne];exact g1) (by rw[bne_iff_ne];exact g2) (by rw[bne_eq_false_iff_eq];exact g3) (by omega) (by rw[R];exact hs) hs2;rwa [ei] at k
    ·rw[if_pos ⟨g1,g2,g3⟩,if_pos g1];have k:=Atw (DK l) r (e:Nat) (Ce l (Q r) e i).1 (Ce l (Q r) e i).2 (i:Nat) w (Iq l (Q r) e i) c1 (by rw[bne_iff_ne];exact g1) (by rw[bne_iff_ne];exact g2) (by rw[bne_iff_ne];exact g3) (by omega) (by rw[R];exact hs) hs2;rwa [ei,w1] at k
 ·exact Aua (DK l) r _ _ _ _ (by rw[decide_eq_false_iff_not];omega)
end
def TZB:Cw:=TZA
theorem qU:Ch AZ TZB:=pO
theorem Adk(na nb:Bool)(xs ys:LI)(s t:Int)(c1:A9i (s<t)=true)(n1:RQ 79 [o [F na,Y W xs]] (D O s))(n2:RQ 79 [o [F nb,Y W ys]] (D O t)):RQ 83 [o [F na,Y W xs],o [F nb,Y W ys]] (D O (-1)):=A9x (fn:=T4) A9o rfl 400 rfl [.r (D O s),.r (D O t),.b true] (T n1 (T n2 (T c1 a0)))
theorem Adl(na nb:Bool)(xs ys:LI)(s t:Int)(c1:A9i (s<t)=false)(c2:A9i (s>t)=true)(n1:RQ 79 [o [F na,Y W xs]] (D O s))(n2:RQ 79 [o [F nb,Y W ys]] (D O t)):RQ 83 [o [F na,Y W xs],o [F nb,Y W ys]] (D O 1):=A9x (fn:=T4) A9o rfl 400 rfl [.r (D O s),.r (D O t),.b false,.b true] (T n1 (T n2 (T c1 (T c2 a0))))
theorem Adm(na nb:Bool)(xs ys:LI)(s t c:Int)(c1:A9i (s<t)=false)(c2:A9i (s>t)=false)(c3:A9i (s<0)=true)(n1:RQ 79 [o [F na,Y W xs]] (D O s))(n2:RQ 79 [o [F nb,Y W ys]] (D O t))(n3:RQ 99 [Y W xs] (L 1 ((A9l xs).length) (W (A9l xs))))(n4:RQ 99 [Y W ys] (L 1 ((A9l ys).length) (W (A9l ys))))(n5:RQ 134 [H ((A9l xs).length) (W (A9l xs)),H ((A9l ys).length) (W (A9l ys))] (D O c)):RQ 83 [o [F na,Y W xs],o [F nb,Y W ys]] (D O (I O (0-c))):=A9x (fn:=T4) A9o rfl 400 rfl [.r (D O s),.r (D O t),.b false,.b false,.r (L 1 ((A9l xs).length) (W (A9l xs))),.r (L 1 ((A9l ys).length) (W (A9l ys))),.r (D O c),.b true] (T n1 (T n2 (T c1 (T c2 (T n3 (T n4 (T n5 (T c3 a0))))))))
theorem Adn(na nb:Bool)(xs ys:LI)(s t c:Int)(c1:A9i (s<t)=false)(c2:A9i (s>t)=false)(c3:A9i (s<0)=false)(n1:RQ 79 [o [F na,Y W xs]] (D O s))(n2:RQ 79 [o [F nb,Y W ys]] (D O t))(n3:RQ 99 [Y W xs] (L 1 ((A9l xs).length) (W (A9l xs))))(n4:RQ 99 [Y W ys] (L 1 ((A9l ys).length) (W (A9l ys))))(n5:RQ 134 [H ((A9l xs).length) (W (A9l xs)),H ((A9l ys).length) (W (A9l ys))] (D O c)):RQ 83 [o [F na,Y W xs],o [F nb,Y W ys]] (D O c):=A9x (fn:=T4) A9o rfl 400 rfl [.r (D O s),.r (D O t),.b false,.b false,.r (L 1 ((A9l xs).length) (W (A9l xs))),.r (L 1 ((A9l ys).length) (W (A9l ys))),.r (D O c),.b false] (T n1 (T n2 (T c1 (T c2 (T n3 (T n4 (T n5 (T c3 a0))))))))
theorem qV(na nb m1 m2:Bool)(xs ys us vs:LI)(d:Int)(c1:(m1)=true)(c2:(m2)=true)(n1:RQ 143 [o [F na,Y W xs]] (Ax [F m1,Y W us]))(n2:RQ 143 [o [F nb,Y W ys]] (Ax [F m2,Y W vs]))(n3:RQ 151 [Y W vs,Y W us] (D O d)):RQ 103 [o [F na,Y W xs],o [F nb,Y W ys]] (D O d):=A9x (fn:=Oh) A9o rfl 400 rfl [.r (Ax [F m1,Y W us]),.r (Ax [F m2,Y W vs]),.b true,.b false,.b true,.b false,.b true,.r (D O d)] (T n1 (T n2 (T c1 (T (Hx c2) (T c2 (T (Hx c1) (T c1 (T n3 a0))))))))
theorem qW(na nb m1 m2:Bool)(xs ys us vs:LI)(c1:(m1)=true)(c2:(m2)=false)(n1:RQ 143 [o [F na,Y W xs]] (Ax [F m1,Y W us]))(n2:RQ 143 [o [F nb,Y W ys]] (Ax [F m2,Y W vs])):RQ 103 [o [F na,Y W xs],o [F nb,Y W ys]] (D O (-1)):=A9x (fn:=Oh) A9o rfl 400 rfl [.r (Ax [F m1,Y W us]),.r (Ax [F m2,Y W vs]),.b true,.b true] (T n1 (T n2 (T c1 (T (mE c2) a0))))
theorem qX(na nb m1 m2:Bool)(xs ys us vs:LI)(c1:(m1)=false)(c2:(m2)=true)(n1:RQ 143 [o [F na,Y W xs]] (Ax [F m1,Y W us]))(n2:RQ 143 [o [F nb,Y W ys]] (Ax [F m2,Y W vs])):RQ 103 [o [F na,Y W xs],o [F nb,Y W ys]] (D O 1):=A9x (fn:=Oh) A9o rfl 400 rfl [.r (Ax [F m1,Y W us]),.r (Ax [F m2,Y W vs]),.b false,.b false,.b true,.b true] (T n1 (T n2 (T c1 (T ES (T c2 (T (mE c1) a0))))))
theorem qY(na nb m1 m2:Bool)(xs ys us vs:LI)(c:Int)(c1:(m1)=false)(c2:(m2)=false)(n1:RQ 143 [o [F na,Y W xs]] (Ax [F m1,Y W us]))(n2:RQ 143 [o [F nb,Y W ys]] (Ax [F m2,Y W vs]))(n3:RQ 151 [Y W us,Y W vs] (D O c)):RQ 103 [o [F na,Y W xs],o [F nb,Y W ys]] (D O c):=A9x (fn:=Oh) A9o rfl 400 rfl [.r (Ax [F m1,Y W us]),.r (Ax [F m2,Y W vs]),.b false,.b false,.b false,.b false,.b false,.r (D O c)] (T n1 (T n2 (T c1 (T ES (T c2 (T ES (T c1 (T n3 a0))))))))
def GM(m:Bool)(k:Int)(s:Int)(ms:LI)(lost:Bool)(i:Int):Al:=(Ac 4 (A9s [F false,H 0 []]::(A9j (F m)::(A9j (Y W ms)::(A9j (D O k)::(A9j (D B s)::(A9j (F lost)::(A9j (D O i)::(Ac 92 [])))))))))
theorem Ado(m:Bool)(k:Int)(s:Int)(ms:LI)(lost:Bool)(i:Int)(c1:A9i (i<k)=true)(c2:A9i (i<(ms.length:Int))=true)(c3:(lost)=false)(n1:0<=i/\i<(ms.length:Int)):Ar Lx (GM m k s ms lost i) .norm (GM m k s ms ((ms.getD (A i) 0) != 0) (I O (i+1))):=(G A9o 400 [.b true,.b true,.b false,.v (D Ad (ms.getD (A i) 0))] [4,5,6,7,8,9,10] (T c1 (T c2 (T c3 (T n1 (T (AAe n1) a0))))))
theorem Adp(m:Bool)(k:Int)(s:Int)(ms:LI)(lost:Bool)(i:Int)(c1:A9i (i<k)=false):Ar Lx (GM m k s ms lost i) (.exit 0) (GM m k s ms lost i):=(G A9o 400 [.b false,.b false] [4,5,6,7,8,9,10] (T c1 (T ES a0)))
def FS(m:Bool)(k:Int)(s:Int)(ms:LI)(lost:Bool)(n:Nat)(cs:List AV)(i:Int):Al:=(Ac 4 (A9s [F false,H 0 []]::(A9j (F m)::(A9j (Y W ms)::(A9j (D O k)::(A9j (D B s)::(A9j (F lost)::(Ac 1 (A9n 1 n cs::(A9j (D O i)::(Ac 90 [])))))))))))
theorem Adq(m:Bool)(k:Int)(s:Int)(ms:LI)(lost:Bool)(n:Nat)(cs:List AV)(i:Int)(c1:A9i (i<(ms.length:Int))=true)(c2:A9i ((I O (i+1))<(ms.length:Int))=true)(n1:0<=i/\i<(ms.length:Int))(n2:0<=(I O (i+1))/\(I O (i+1))<(ms.length:Int))(n3:¬ s<0)(n4:n+1<=35184372088832):Ar Kr (FS m k s ms lost n cs i) .norm (FS m k s ms lost (n+1) (cs++([D Ad (I Ad (A9q (I B ((U (An .u64) (I B (ms.getD (A i) 0)) ||| U (An .u64) (I B ((I B (ms.getD (A (I O (i+1))) 0))*2^(min (A 32) (An .u64))))).toNat)) (2^(min (A s) (An .u64)))))]:List AV)) (I O (i+1))):=(G A9o 400 [.b true,.v (D Ad (ms.getD (A i) 0)),.b true,.v (D Ad (ms.getD (A (I O (i+1))) 0))] [4,5,6,7,8,9,11,12] (T c1 (T n1 (T (AAe n1) (T c2 (T n2 (T (AAe n2) (T It (T n3 (T (show Bs ([D Ad (I Ad (A9q (I B ((U (An .u64) (I B (ms.getD (A i) 0)) ||| U (An .u64) (I B ((I B (ms.getD (A (I O (i+1))) 0))*2^(min (A 32) (An .u64))))).toNat)) (2^(min (A s) (An .u64)))))]:List AV)=1*1 from rfl) (T n4 a0)))))))))))
theorem Adr(m:Bool)(k:Int)(s:Int)(ms:LI)(lost:Bool)(n:Nat)(cs:List AV)(i:Int)(c1:A9i (i<(ms.length:Int))=true)(c2:A9i ((I O (i+1))<(ms.length:Int))=false)(n1:0<=i/\i<(ms.length:Int))(n2:¬ s<0)(n3:n+1<=35184372088832):Ar Kr (FS m k s ms lost n cs i) .norm (FS m k s ms lost (n+1) (cs++([D Ad (I Ad (A9q (I B (ms.getD (A i) 0)) (2^(min (A s) (An .u64)))))]:List AV)) (I O (i+1))):=(G A9o 400 [.b true,.v (D Ad (ms.getD (A i) 0)),.b false] [4,5,6,7,8,9,11,12] (T c1 (T n1 (T (AAe n1) (T c2 (T n2 (T (show Bs ([D Ad (I Ad (A9q (I B (ms.getD (A i) 0)) (2^(min (A s) (An .u64)))))]:List AV)=1*1 from rfl) (T n3 a0))))))))
theorem Ads(m:Bool)(k:Int)(s:Int)(ms:LI)(lost:Bool)(n:Nat)(cs:List AV)(i:Int)(c1:A9i (i<(ms.length:Int))=false):Ar Kr (FS m k s ms lost n cs i) (.exit 2) (FS m k s ms lost n cs i):=(G A9o 400 [.b false] [4,5,6,7,8,9,11,12] (T c1 a0))
theorem qZ(neg m lost:Bool)(xs ms os:LI)(sh i1 i2 u:Int)(c1:A9i ((I O (Av sh 32))<(ms.length:Int))=true)(c2:((I Ad ((U (An .u32) (ms.getD (A (I O (Av sh 32))) 0) &&& U (An .u32) (I Ad ((I Ad (1*2^(min (A (I B (AC sh 32))) (An .u32))))-1))).toNat)) != 0)=false)(c3:(m)=true)(c4:(lost)=false)(n1:RQ 143 [o [F neg,Y W xs]] (Ax [F m,Y W ms]))(hl2:Ar (.loop Lx) (GM m (I O (Av sh 32)) (I B (AC sh 32)) ms false 0) (.exit 0) (GM m (I O (Av sh 32)) (I B (AC sh 32)) ms lost i1))(hl3:Ar (.loop Kr) (FS m (I O (Av sh 32)) (I B (AC sh 32)) ms lost 0 ([]:List AV) (I O (Av sh 32))) (.exit 2) (FS m (I O (Av sh 32)) (I B (AC sh 32)) ms lost os.length (W os) i2))(n4:0<=(I O (Av sh 32))/\(I O (Av sh 32))<(ms.length:Int))(n5:¬ (I B (AC sh 32))<0)(n6:RQ 152 [F m,Y W os] (Ag u)):RQ 163 [o [F neg,Y W xs],D O sh] (Ag u):=A9g SA (Ac 4 (A9s [F (A9i (u<0)),H ((M (E u)).length) (W (M (E u)))]::(Ac 98 []))) (A9m (A9m (A9m (A9t (C1.seq (G A9o 400 [.r (Ax [F m,Y W ms])] [4,5,6,7,8,9,10] (T n1 (T FO (T FO a0)))) (C1.seq (C1.block hl2) (A9t (C1.seq (G A9o 400 [] [4,5,6,7,8,9,11,12] a0) (C1.seq (C1.block hl3) (G A9o 400 [.b true,.v (D Ad (ms.getD (A (I O (Av sh 32))) 0)),.b false,.b true,.b false,.r (Ag u)] [4] (T c1 (T n4 (T (AAe n4) (T n5 (T c2 (T c3 (T c4 (T n6 a0))))))))))))))))))
theorem rA(neg m lost:Bool)(xs ms os:LI)(sh i1 i2 u:Int)(c1:A9i ((I O (Av sh 32))<(ms.length:Int))=true)(c2:((I Ad ((U (An .u32) (ms.getD (A (I O (Av sh 32))) 0) &&& U (An .u32) (I Ad ((I Ad (1*2^(min (A (I B (AC sh 32))) (An .u32))))-1))).toNat)) != 0)=false)(c3:(m)=false)(n1:RQ 143 [o [F neg,Y W xs]] (Ax [F m,Y W ms]))(hl2:Ar (.loop Lx) (GM m (I O (Av sh 32)) (I B (AC sh 32)) ms false 0) (.exit 0) (GM m (I O (Av sh 32)) (I B (AC sh 32)) ms lost i1))(hl3:Ar (.loop Kr) (FS m (I O (Av sh 32)) (I B (AC sh 32)) ms lost 0 ([]:List AV) (I O (Av sh 32))) (.exit 2) (FS m (I O (Av sh 32)) (I B (AC sh 32)) ms lost os.length (W os) i2))(n4:0<=(I O (Av sh 32))/\(I O (Av sh 32))<(ms.length:Int))(n5:¬ (I B (AC sh 32))<0)(n6:RQ 152 [F m,Y W os] (Ag u)):RQ 163 [o [F neg,Y W xs],D O sh] (Ag u):=A9g SA (Ac 4 (A9s [F (A9i (u<0)),H ((M (E u)).length) (W (M (E u)))]::(Ac 98 []))) (A9m (A9m (A9m (A9t (C1.seq (G A9o 400 [.r (Ax [F m,Y W ms])] [4,5,6,7,8,9,10] (T n1 (T FO (T FO a0)))) (C1.seq (C1.block hl2) (A9t (C1.seq (G A9o 400 [] [4,5,6,7,8,9,11,12] a0) (C1.seq (C1.block hl3) (G A9o 400 [.b true,.v (D Ad (ms.getD (A (I O (Av sh 32))) 0)),.b false,.b false,.b false,.r (Ag u)] [4] (T c1 (T n4 (T (AAe n4) (T n5 (T c2 (T c3 (T ES (T n6 a0))))))))))))))))))
theorem A3j(r t:Rn)(e f X Y c:Int)(n1:RQ 104 [Ay r,D O (I O ((if f>e then f else e)-e))] (Ag X))(n2:RQ 104 [Ay t,D O (I O ((if f>e then f else e)-f))] (Ag Y))(n3:RQ 103 [Ag X,Ag Y] (D O c)):RQ 55 [o [F r.1,H r.2.length (W r.2),D O e],o [F t.1,H t.2.length (W t.2),D O f]] (D O c):=A9x (fn:=cX) A9o rfl 400 rfl [.r (Ag X),.r (Ag Y),.r (D O c)] (T n1 (T n2 (T n3 a0)))
def Ma(n:Rn)(e:Int)(z:Int):Al:=(Ac 1 (A9j (D O e)::(A9s [F n.1,H n.2.length (W n.2)]::(Ac 1 (A9s [F false,H 0 [],D O 0]::(A9j (D O z)::(Ac 33 [])))))))
theorem Avx(n:Rn)(e:Int)(z:Int)(c1:A9i (z<e)=true)(c2:((I Ad ((U (An .u32) (A9q (n.2.getD (A (I O (Av z 32))) 0) (2^(min (A (I B (AC z 32))) (An .u32)))) &&& U (An .u32) 1).toNat))==0)=true)(n1:0<=(I O (Av z 32))/\(I O (Av z 32))<(n.2.length:Int))(n2:¬ (I B (AC z 32))<0):Ar Sr (Ma n e z) .norm (Ma n e (I O (z+1))):=(G A9o 400 [.b true,.v (D Ad (n.2.getD (A (I O (Av z 32))) 0)),.b true] [1,2,4,5] (T c1 (T FO (T n1 (T (AAe n1) (T FO (T n2 (T c2 a0))))))))
theorem Avy(n:Rn)(e:Int)(z:Int)(c1:A9i (z<e)=true)(c2:((I Ad ((U (An .u32) (A9q (n.2.getD (A (I O (Av z 32))) 0) (2^(min (A (I B (AC z 32))) (An .u32)))) &&& U (An .u32) 1).toNat))==0)=false)(n1:0<=(I O (Av z 32))/\(I O (Av z 32))<(n.2.length:Int))(n2:¬ (I B (AC z 32))<0):Ar Sr (Ma n e z) (.exit 0) (Ma n e z):=(G A9o 400 [.b true,.v (D Ad (n.2.getD (A (I O (Av z 32))) 0)),.b false] [1,2,4,5] (T c1 (T FO (T n1 (T (AAe n1) (T FO (T n2 (T c2 a0))))))))
theorem Avz(n:Rn)(e:Int)(z:Int)(c1:A9i (z<e)=false):Ar Sr (Ma n e z) (.exit 0) (Ma n e z):=(G A9o 400 [.b false,.b false] [1,2,4,5] (T c1 (T ES a0)))
theorem rB(r:Rn)(e n:Int)(c1:((((M (E n)).length:Nat):Int)==0)=true)(n1:RQ 113 [Ay r] (Ag n)):RQ 130 [Ay r,D O e] (o [F false,H 0 [],D O 0]):=A9g Ss (Ac 4 (A9s [F false,H 0 [],D O 0]::(Ac 34 []))) (A9m (A9m (A9m (A8 (G A9o 400 [.r (Ag n),.b true] [4] (T n1 (T c1 a0))) (by nofun)))))
theorem rC(r:Rn)(e n z u:Int)(c1:((((M (E n)).length:Nat):Int)==0)=false)(n1:RQ 113 [Ay r] (Ag n))(hl2:Ar (.loop Sr) (Ma (V n) e 0) (.exit 0) (Ma (V n) e z))(n3:RQ 163 [Ay (V n),D O z] (Ag u)):RQ 130 [Ay r,D O e] (o [F (A9i (u<0)),H ((M (E u)).length) (W (M (E u))),D O (I O (e-z))]):=A9g Ss (Ac 4 (A9s [F (A9i (u<0)),H ((M (E u)).length) (W (M (E u))),D O (I O (e-z))]::(Ac 34 []))) (A9m (A9m (A9m (C1.seq (G A9o 400 [.r (Ag n),.b false] [1,2,4,5] (T n1 (T c1 a0))) (C1.seq (C1.block hl2) (G A9o 400 [.r (Ag u)] [4] (T n3 a0)))))))
theorem Awa(r t:Rn)(e f X Y Z n m:Int)(n1:RQ 104 [Ay r,D O (I O ((if f>e then f else e)-e))] (Ag X))(n2:RQ 104 [Ay t,D O (I O ((if f>e then f else e)-f))] (Ag Y))(n3:RQ 111 [Ag X,Ag Y] (Ag Z))(n4:RQ 130 [Ag Z,D O (I O ((if f>e then f else e)+1))] (o [F (A9i (n<0)),H ((M (E n)).length) (W (M (E n))),D O m])):RQ 133 [o [F r.1,H r.2.length (W r.2),D O e],o [F t.1,H t.2.length (W t.2),D O f]] (o [F (A9i (n<0)),H ((M (E n)).length) (W (M (E n))),D O m]):=A9x (fn:=V6) A9o rfl 400 rfl [.r (Ag X),.r (Ag Y),.r (Ag Z),.r (o [F (A9i (n<0)),H ((M (E n)).length) (W (M (E n))),D O m])] (T n1 (T n2 (T n3 (T n4 a0))))
theorem A3k(r t:Rn)(e f X Y c:Int)(n1:RQ 84 [Ay r,D O f] (CI X))(n2:RQ 84 [Ay t,D O e] (CI Y))(n3:RQ 83 [Ag X,Ag Y] (D O c)):RQ 33 [o [F r.1,H r.2.length (W r.2),D O e],o [F t.1,H t.2.length (W t.2),D O f]] (D O c):=A9x (fn:=cQ) A9o rfl 400 rfl [.r (CI X),.r (CI Y),.r (D O c)] (T n1 (T n2 (T n3 a0)))
def Ke(n:Rn)(e:Int):Al:=(Ac 2 (A9s [F false,H 0 [],D O 0]::(A9s [F n.1,H n.2.length (W n.2)]::(A9j (D O e)::(Ac 28 [])))))
theorem Awb(n:Rn)(e:Int)(u:Int)(c1:A9i (e>0)=true)(c2:((n.2.length:Int)==0)=true)(n1:RQ 128 [Ay n,D O 1] (Ag u)):Ar Qy (Ke n e) .norm (Ke (V u) (I O (e-1))):=(G A9o 400 [.b true,.b true,.b true,.b true,.b true,.r (Ag u)] [2,3,4] (T c1 (T c2 (T c1 (T c2 (T Hw (T n1 a0)))))))
theorem Awc(n:Rn)(e:Int)(u:Int)(c1:A9i (e>0)=true)(c2:((n.2.length:Int)==0)=false)(c3:((I Ad ((U (An .u32) (n.2.getD (A 0) 0) &&& U (An .u32) 1).toNat))==0)=true)(n1:0<=(0:Int)/\(0:Int)<(n.2.length:Int))(n2:RQ 128 [Ay n,D O 1] (Ag u)):Ar Qy (Ke n e) .norm (Ke (V u) (I O (e-1))):=(G A9o 400 [.b true,.b false,.v (D Ad (n.2.getD (A 0) 0)),.b true,.b false,.b true,.r (Ag u)] [2,3,4] (T c1 (T c2 (T n1 (T (AAe n1) (T c1 (T c2 (T c3 (T n2 a0)))))))))
theorem Awd(n:Rn)(e:Int)(c1:A9i (e>0)=true)(c2:((n.2.length:Int)==0)=false)(c3:((I Ad ((U (An .u32) (n.2.getD (A 0) 0) &&& U (An .u32) 1).toNat))==0)=false)(n1:0<=(0:Int)/\(0:Int)<(n.2.length:Int)):Ar Qy (Ke n e) (.exit 0) (Ke n e):=(G A9o 400 [.b true,.b false,.v (D Ad (n.2.getD (A 0) 0)),.b true,.b false,.b false] [2,3,4] (T c1 (T c2 (T n1 (T (AAe n1) (T c1 (T c2 (T c3 a0))))))))
theorem Awe(n:Rn)(e:Int)(c1:A9i (e>0)=false):Ar Qy (Ke n e) (.exit 0) (Ke n e):=(G A9o 400 [.b false,.b false] [2,3,4] (T c1 (T ES a0)))
theorem Awf(r:Rn)(e n u z:Int)(n1:RQ 97 [Ay r] (Ag n))(hl2:Ar (.loop Qy) (Ke (V n) e) (.exit 0) (Ke (V u) z)):RQ 162 [o [F r.1,H r.2.length (W r.2),D O e]] (o [F ((V u).1),H ((V u).2.length) (W (V u).2),D O z]):=A9g VP (Ac 2 (A9s [F ((V u).1),H ((V u).2.length) (W (V u).2),D O z]::(Ac 30 []))) (A9m (C1.seq (G A9o 400 [.r (Ag n)] [2,3,4] (T n1 a0)) (C1.seq (C1.block hl2) (G A9o 400 [] [2] a0))))
theorem Awg(r t:Rn)(e f X Y Z n m:Int)(n1:RQ 84 [Ay r,D O (I O ((if f>e then f else e)-e))] (CI X))(n2:RQ 84 [Ay t,D O (I O ((if f>e then f else e)-f))] (CI Y))(n3:RQ 95 [Ag X,Ag Y] (Ag Z))(n4:RQ 162 [o [F (A9i (Z<0)),H ((M (E Z)).length) (W (M (E Z))),D O (I O ((if f>e then f else e)+1))]] (o [F (A9i (n<0)),H ((M (E n)).length) (W (M (E n))),D O m])):RQ 121 [o [F r.1,H r.2.length (W r.2),D O e],o [F t.1,H t.2.length (W t.2),D O f]] (o [F (A9i (n<0)),H ((M (E n)).length) (W (M (E n))),D O m]):=A9x (fn:=Vw) A9o rfl 400 rfl [.r (CI X),.r (CI Y),.r (Ag Z),.r (o [F (A9i (n<0)),H ((M (E n)).length) (W (M (E n))),D O m])] (T n1 (T n2 (T n3 (T n4 a0))))
theorem A3l{a b X Y:Int}(ha:a=X\/a = -X)(hb:b=Y\/b = -Y)(hX:0<=X)(hY:0<=Y) :
  (BS a<BS b->CR a b = -1)/\(BS a>BS b->CR a b=1)/\(¬ BS a<BS b->¬ BS a>BS b->(BS a<0->CR a b = -CR X Y)/\(¬ BS a<0->CR a b=CR X Y)):=by
 unfold BS CR;grind
theorem I9(a b:Int) : -1<=CR a b/\CR a b<=1:=by unfold CR;grind
theorem Awh(neg:Bool)(xs:LI):v neg xs=Ab xs\/v neg xs = -Ab xs:=by unfold v;cases neg <;> simp
theorem Adt{na nb:Bool}{xs ys:LI}(hx:AP xs)(hy:AP ys)(h1:xs.length<=1048576)(h2:ys.length<=1048576):RQ 83 [o [F na,Y W xs],o [F nb,Y W ys]] (D O (CR (v na xs) (v nb ys))):=by
 obtain⟨a1,a2,a3⟩:=A3l (Awh na xs) (Awh nb ys) (AW hx) (AW hy);have s1:=Gw (neg:=na) hx h1;have s2:=Gw (neg:=nb) hy h2;by_cases c1:BS (v na xs)<BS (v nb ys)
 ·rw[a1 c1];exact Adk na nb xs ys _ _ (by rw[decide_eq_true_eq];exact c1) s1 s2
 by_cases c2:BS (v na xs)>BS (v nb ys)
 ·rw[a2 c2];exact Adl na nb xs ys _ _ (by rw[decide_eq_false_iff_not];exact c1) (by rw[decide_eq_true_eq];exact c2) s1 s2
 obtain⟨a4,a5⟩:=a3 c1 c2;have t1:=Bp xs;have t2:=Bp ys;have hc:=Ow (F7 hx) (F7 hy) (by omega);rw[Ek,Ek] at hc;by_cases c3:BS (v na xs)<0
 ·have hb:=I9 (Ab xs) (Ab ys);have k:=Adm na nb xs ys _ _ _ (by rw[decide_eq_false_iff_not];exact c1) (by rw[decide_eq_false_iff_not];exact c2) (by rw[decide_eq_true_eq];exact c3) s1 s2 (Eh (by omega)) (Eh (by omega)) hc;rw[Bl (by omega) (by omega),Int.zero_sub] at k;rw[a4 c3];exact k
 ·rw[a5 c3];exact Adn na nb xs ys _ _ _ (by rw[decide_eq_false_iff_not];exact c1) (by rw[decide_eq_false_iff_not];exact c2) (by rw[decide_eq_false_iff_not];exact c3) s1 s2 (Eh (by omega)) (Eh (by omega)) hc
theorem Adu{na nb:Bool}{xs ys:LI}(hx:AP xs)(hy:AP ys)(h1:xs.length<=1048576)(h2:ys.length<=1048576):RQ 103 [o [F na,Y W xs],o [F nb,Y W ys]] (D O (CR (v na xs) (v nb ys))):=by
 have s1:=Du (neg:=na) hx h1;have s2:=Du (neg:=nb) hy h2;have l1:=EG (neg:=na) hx;have l2:=EG (neg:=nb) hy;have k1:=Jo (Cl (v na xs).natAbs) (Cl (v nb ys).natAbs) (by omega);have k2:=Jo (Cl (v nb ys).natAbs) (Cl (v na xs).natAbs) (by omega);rw[Cx,Cx] at k1 k2;by_cases c1:v na xs<0
 ·by_cases c2:v nb ys<0
  ·have e:CR (v na xs) (v nb ys)=CR ((v nb ys).natAbs:Int) ((v na xs).natAbs:Int):=by unfold CR;grind
   rw[e];exact qV na nb _ _ xs ys _ _ _ (decide_eq_true c1) (decide_eq_true c2) s1 s2 k2
  ·have e:CR (v na xs) (v nb ys) = -1:=by unfold CR;grind
   rw[e];exact qW na nb _ _ xs ys _ _ (decide_eq_true c1) (decide_eq_false c2) s1 s2
 ·by_cases c2:v nb ys<0
  ·have e:CR (v na xs) (v nb ys)=1:=by unfold CR;grind
   rw[e];exact qX na nb _ _ xs ys _ _ (decide_eq_false c1) (decide_eq_true c2) s1 s2
  ·have e:CR (v na xs) (v nb ys)=CR ((v na xs).natAbs:Int) ((v nb ys).natAbs:Int):=by unfold CR;grind
   rw[e];exact qY na nb _ _ xs ys _ _ _ (decide_eq_false c1) (decide_eq_false c2) s1 s2 k1
theorem iD{ms:LI}(hu:AP ms):∀ k,k<=ms.length->Ab (ms.take k)=0->∀ i,i<k->ms.getD i 0=0:=by
 intro k;induction k with
 | zero=>intro _ _ i hi;omega
 | succ k ih =>
  intro hk hv i hi;have ht:=DX ms k (by omega);have hp:=C3 k;have hm:=AG hu k;have h1:=(O5 (DS hu k) (A6 (Aw hp) hm.1)).1 (by rw[<- ht];exact hv);rcases Cn i k with g | g
  ·exact ih (by omega) h1.1 i g
  ·have:i=k:=by omega
   subst this;rcases Hs.1 h1.2 with z | z
   ·omega
   ·exact z
theorem A8m{m:Bool}{ms:LI}{s:Int}{k:Nat}(hk:k<=ms.length)(hN:ms.length<=1048576)(hz:∀ i,i<k->ms.getD i 0=0) :
  Ar (.loop Lx) (GM m (k:Nat) s ms false 0) (.exit 0) (GM m (k:Nat) s ms false (k:Nat)):=by
 have h:=C1.up (prog:=AZ) (c:=Lx) (ex := .exit 0) (fin:=GM m (k:Nat) s ms false (k:Nat)) (fun i=>GM m (k:Nat) s ms false (i:Nat)) k (by nofun) ?_ ?_ 0 (By _)
 ·exact h
 ·intro i hi;have ei:I O ((i:Int)+1)=((i+1:Nat):Int):=by rw[Bl (by omega) (by omega)];omega
  have k1:=Ado m (k:Nat) s ms false (i:Nat) (by simp;omega) (by simp;omega) rfl (by omega);rw[ei,R,hz i hi] at k1;exact k1
 ·exact Adp m _ s ms false _ (by simp)
theorem A8n{m:Bool}{ms:LI}{kk:Int}{s k:Nat}(hu:AP ms)(hs:s<32)(hN:ms.length<=1048576)(hk:k<=ms.length):∀ (r i:Nat),i+r=ms.length-k ->
  Ar (.loop Kr) (FS m kk (s:Nat) ms false i (W ((Aq i).map (Dq (ms.drop k) s))) ((k+i:Nat):Int)) (.exit 2) (FS m kk (s:Nat) ms false (ms.length-k) (W ((Aq (ms.length-k)).map (Dq (ms.drop k) s))) (ms.length:Nat)):=by
 intro r;induction r with
 | zero =>
  intro i hi;have hi':i=ms.length-k:=by omega
  subst hi';have e0:((k+(ms.length-k):Nat):Int)=(ms.length:Nat):=by omega
  rw[e0];exact Ao (Ads m kk _ ms false _ _ _ (by simp)) (by nofun)
 | succ r ih =>
  intro i hi;have ei:I O (((k+i:Nat):Int)+1)=((k+(i+1):Nat):Int):=by rw[Bl (by omega) (by omega)];omega
  have hx:=AG hu (k+i);have hy:=AG hu (k+i+1);have gx:(ms.drop k).getD i 0=ms.getD (k+i) 0:=by simp[Z,Bw]
  have gy:(ms.drop k).getD (i+1) 0=ms.getD (k+i+1) 0:=by simp[Z,Bw,DE]
  have em:min (A (s:Int)) (An .u64)=s:=by rw[R];show min s 64=s;omega
  have hR:Dq (ms.drop k) s i=(ms.getD (k+i+1) 0*4294967296+ms.getD (k+i) 0) / 2^s % 4294967296:=by
   rw[fO hx hs];unfold Dq;rw[gx,gy]
  have hstep:Ar Kr (FS m kk (s:Nat) ms false i (W ((Aq i).map (Dq (ms.drop k) s))) ((k+i:Nat):Int)) .norm (FS m kk (s:Nat) ms false (i+1) (W ((Aq (i+1)).map (Dq (ms.drop k) s))) ((k+(i+1):Nat):Int)):=by
   have el:W ((Aq (i+1)).map (Dq (ms.drop k) s))=W ((Aq i).map (Dq (ms.drop k) s))++([D Ad (Dq (ms.drop k) s i)]:List AV):=by
    rw[H3,Ep,C8,FU,HO]
   rw[el,hR];by_cases h1:k+i+1<ms.length
   ·have kk1:=Adq m kk (s:Nat) ms false i (W ((Aq i).map (Dq (ms.drop k) s))) ((k+i:Nat):Int) (by simp;omega) (by rw[ei];simp;omega) (by omega) (by rw[ei];omega) (by omega) (by omega);rw[ei,R,R,em] at kk1;have w1:I B ((U (An .u64) (I B (ms.getD (k+i) 0)) ||| U (An .u64) (I B ((I B (ms.getD (k+(i+1)) 0))*2^(min (A 32) (An .u64))))).toNat)=ms.getD (k+i+1) 0*4294967296+ms.getD (k+i) 0:=by
     rw[Ut,CC (n:=ms.getD (k+(i+1)) 0) (by rw[<- DE];omega),<- DE];exact Nh hy hx
    have hpos:0<=ms.getD (k+i+1) 0*4294967296+ms.getD (k+i) 0:=by omega
    rw[w1,AAg _ (by have:=BP s;omega),DW] at kk1;exact kk1
   ·have hz:ms.getD (k+i+1) 0=0:=B0 (by omega);have kk1:=Adr m kk (s:Nat) ms false i (W ((Aq i).map (Dq (ms.drop k) s))) ((k+i:Nat):Int) (by simp;omega) (by rw[ei];simp;omega) (by omega) (by omega) (by omega);rw[ei,R,em,CC (n:=ms.getD (k+i) 0) (by omega),AAg _ (by have:=BP s;omega),DW] at kk1;rw[hz,CX,DL];exact kk1
  exact C1.loop hstep (ih (i+1) (by omega))
theorem iE{N:Int}(h0:N ≠ 0){z:Nat}(hd:(2:Int)^z∣N):z / 32<(M N.natAbs).length:=by
 apply Nat.lt_of_not_le;intro hle;have h1:=DJ (Cl N.natAbs).1;rw[Cx] at h1;have h2:=Gj hle;have h3:=Ij z;have h4:=BP (z % 32);have h5:=Aj (show (1:Int)<=2^(z % 32) by omega) (Aw (C3 (z / 32)));rw[De,<- h3] at h5;obtain⟨q,hq⟩:=hd;have hq0:q ≠ 0:=by intro h;rw[h,AI] at hq;exact h0 hq
 have h6:(N.natAbs:Int)=2^z*(q.natAbs:Int):=by
  rw[hq,BT,Dj,Lk (Aw (BP z))]
 have h7:=Aj (show (1:Int)<=(q.natAbs:Int) by omega) (Aw (BP z));rw[De,<- h6] at h7;omega
theorem iF{N:Int}(h0:N ≠ 0){n:Nat}(hd:(2:Int)^n∣N)(hn:(n:Int)<=9223372036854775807)(hN:(M N.natAbs).length<=1048576):RQ 163 [Ag N,D O (n:Nat)] (Ag (N / 2^n)):=by
 have hin:=iE h0 hd;have e1:I O (Av (n:Int) 32)=((n / 32:Nat):Int):=by
  rw[BH (by omega),Bl (by omega) (by omega)];omega
 have e2:I B (AC (n:Int) 32)=((n % 32:Nat):Int):=by
  rw[Bu (by omega),BF];omega
 have hs:n % 32<32:=HR _ (by decide);have tu:AP (M N.natAbs):=BR _;have hlb:=Du (neg:=decide (N<0)) tu hN;rw[F8] at hlb;have hp:=Ij n;have hP:=C3 (n / 32);have hS:=BP (n % 32);have hval:=Cx N.natAbs;generalize hms:M N.natAbs=ms at *
 have hall:=fP (ms:=ms) hs (show n / 32<=ms.length by omega);have ux:AP ((Aq (ms.length-n / 32)).map (Dq (ms.drop (n / 32)) (n % 32))):=QF fun i=>(R6 (E_ tu _) hs i).2.2.2;have hmk:=EI (neg:=decide (N<0)) ux (by simp;omega);have hlen:((Aq (ms.length-n / 32)).map (Dq (ms.drop (n / 32)) (n % 32))).length=ms.length-n / 32:=by simp
 have hb:=A8n (m:=decide (N<0)) (ms:=ms) (kk:=((n / 32:Nat):Int)) (s:=n % 32) (k:=n / 32) tu hs hN (by omega) (ms.length-n / 32) 0 (by omega);generalize hQ:(Aq (ms.length-n / 32)).map (Dq (ms.drop (n / 32)) (n % 32))=Q at *
 (first|rw[<- hlen] at hb|(unfold Y at hb;rw[<- hlen] at hb));have hm0:=FF (ms.getD (n / 32) 0) (show (2:Int)^(n % 32) ≠ 0 by omega);have hm1:=Ew (ms.getD (n / 32) 0) hS;have ht0:=AW (DS tu (n / 32));have ht1:=Gb tu (n / 32);have hl:0<=4294967296^(n / 32)*(ms.getD (n / 32) 0 % 2^(n % 32))+Ab (ms.take (n / 32))/\4294967296^(n / 32)*(ms.getD (n / 32) 0 % 2^(n % 32))+Ab (ms.take (n / 32))<2^n:=by
  rw[hp];generalize (4294967296:Int)^(n / 32)=P at *
  generalize ms.getD (n / 32) 0 % 2^(n % 32)=z at *
  generalize (2:Int)^(n % 32)=S at *
  have a:=A6 (Aw hP) hm0;have b:=Aj (show z+1<=S by omega) (Aw hP);rw[CT,De] at b;omega
 have hdm:(2:Int)^n∣(N.natAbs:Int):=Int.dvd_natAbs.2 hd;have hv2:(N.natAbs:Int)=2^n*Ab Q+(4294967296^(n / 32)*(ms.getD (n / 32) 0 % 2^(n % 32))+Ab (ms.take (n / 32))):=by rw[<- hval,hall,hp];grind
 have hl0:4294967296^(n / 32)*(ms.getD (n / 32) 0 % 2^(n % 32))+Ab (ms.take (n / 32))=0:=by
  have h1:(N.natAbs:Int) % 2^n=0:=Int.emod_eq_zero_of_dvd hdm;rw[hv2,K7,Um,Gf hl.1 hl.2] at h1;exact h1
 have hz1:ms.getD (n / 32) 0 % 2^(n % 32)=0/\Ab (ms.take (n / 32))=0:=by
  have a:=A6 (Aw hP) hm0;have b:4294967296^(n / 32)*(ms.getD (n / 32) 0 % 2^(n % 32))=0:=by omega
  rcases Hs.1 b with z | z
  ·omega
  ·exact⟨z,by omega⟩
 rw[hl0,BE] at hv2;have ha:=A8m (m:=decide (N<0)) (ms:=ms) (s:=((n % 32:Nat):Int)) (k:=n / 32) (by omega) hN (iD tu _ (by omega) hz1.2);have emask:I Ad ((I Ad (1*2^(min (A (I B (AC (n:Int) 32))) (An .u32))))-1)=2^(n % 32)-1:=by
  have:min (A ((n % 32:Nat):Int)) (An .u32)=n % 32:=by rw[R];show min (n % 32) 32=n % 32;omega
  have h31:(2:Int)^(n % 32)<=2147483648:=G6 (show n % 32<=31 by omega);rw[e2,this,Dt,DW,DW];omega
 have ec2:I Ad ((U (An .u32) (ms.getD (A (I O (Av (n:Int) 32))) 0) &&& U (An .u32) (I Ad ((I Ad (1*2^(min (A (I B (AC (n:Int) 32))) (An .u32))))-1))).toNat)=0:=by
  rw[emask,e1,R,oP (AG tu _) (by omega)];exact hz1.1
 have c1:decide ((I O (Av (n:Int) 32))<(ms.length:Int))=true:=by rw[e1];simp;omega
 have hb2:Ar (.loop Kr) (FS (A9i (N<0)) (I O (Av (n:Int) 32)) (I B (AC (n:Int) 32)) ms false 0 [] (I O (Av (n:Int) 32))) (.exit 2) (FS (A9i (N<0)) (I O (Av (n:Int) 32)) (I B (AC (n:Int) 32)) ms false Q.length (W Q) (ms.length:Nat)):=by
  rw[e1,e2];exact hb
 have ha2:Ar (.loop Lx) (GM (A9i (N<0)) (I O (Av (n:Int) 32)) (I B (AC (n:Int) 32)) ms false 0) (.exit 0) (GM (A9i (N<0)) (I O (Av (n:Int) 32)) (I B (AC (n:Int) 32)) ms false ((n / 32:Nat):Int)):=by
  rw[e1,e2];exact ha
 have hres:v (A9i (N<0)) Q=N / 2^n:=by
  have hpn:=BP n;by_cases hneg:N<0
  ·rw[decide_eq_true hneg];have:N=2^n*(-Ab Q):=by rw[E5];omega
   show -Ab Q=_;conv=>rhs;rw[this]
   rw[BX _ (by omega)]
  ·rw[decide_eq_false hneg];have:N=2^n*Ab Q:=by omega
   show Ab Q=_;conv=>rhs;rw[this]
   rw[BX _ (by omega)]
 rw[hres] at hmk;have hlm:(M N.natAbs)=ms:=hms;unfold Ag;rw[hlm];by_cases hneg:N<0
 ·exact qZ _ (A9i (N<0)) false ms ms Q (n:Nat) _ _ _ c1 (by rw[ec2];rfl) (decide_eq_true hneg) rfl hlb ha2 hb2 (by rw[e1];omega) (by rw[e2];omega) hmk
 ·exact rA _ (A9i (N<0)) false ms ms Q (n:Nat) _ _ _ c1 (by rw[ec2];rfl) (decide_eq_false hneg) hlb ha2 hb2 (by rw[e1];omega) (by rw[e2];omega) hmk
theorem WO(n:Int):(V n).2.length=(M n.natAbs).length:=rfl
theorem OI(n:Int):AP (V n).2:=BR _
theorem uT{ms:LI}(hu:AP ms){z:Nat}(hz:z / 32<ms.length):ms.getD (z / 32) 0 / 2^(z % 32) % 2=Ab ms / 2^z % 2:=by
 have h1:=Dw ms (show z / 32<=ms.length by omega);have e32:=R2 (show z % 32<=32 by omega);rw[AA] at e32;have eT:(2:Int)^(32-z % 32)=2*2^(31-z % 32):=by rw[show 32-z % 32=(31-z % 32)+1 by omega,A2];omega
 have h2:Ab (ms.drop (z / 32))=ms.getD (z / 32) 0+2^(z % 32)*(2*2^(31-z % 32))*Ab (ms.drop (z / 32+1)):=by
  rw[<- eT,<- e32,Df hz,Z,Ah hz];rfl
 have ht0:=AW (DS hu (z / 32));have ht1:=Gb hu (z / 32);have hp:=Ij z;have hP:=C3 (z / 32);have hS:=BP (z % 32);have hb0:=FF (ms.getD (z / 32) 0) (show (2:Int)^(z % 32) ≠ 0 by omega);have hb1:=Ew (ms.getD (z / 32) 0) hS;have hx:=G2 (ms.getD (z / 32) 0) (2^(z % 32));rw[hp,h1,h2];clear h1 h2 hp e32 eT;generalize Ab (ms.take (z / 32))=T at *
 generalize Ab (ms.drop (z / 32+1))=R at *
 generalize ms.getD (z / 32) 0=x at *
 generalize (4294967296:Int)^(z / 32)=P at *
 generalize (2:Int)^(31-z % 32)=U at *
 generalize (2:Int)^(z % 32)=S at *
 generalize x / S=a at *
 generalize x % S=b at *
 have e:T+P*(x+S*(2*U)*R)=(T+P*b)+P*S*(a+2*(U*R)):=by rw[<- hx];grind
 have hPS:=Be hP hS;have c1:=A6 (Aw hP) hb0;have c2:=Aj (show b+1<=S by omega) (Aw hP);rw[CT,De] at c2;rw[e,Tp _ _ (by omega),GQ (by omega) (by omega),DL,Um]
theorem WP{p:Int}(hp:0<=p/\p<4294967296):(I Ad ((U (An .u32) p &&& U (An .u32) 1).toNat)==0)=decide (p % 2=0):=by
 have h:=oP hp (s:=1) (by decide);rw[show ((2:Int)^1-1)=1 by decide,show ((2:Int)^1)=2 by decide] at h;rw[h,bI,beq_iff_eq,decide_eq_true_eq]
theorem Adv{x:Int}(hx:0<=x/\x<4294967296){s:Nat}(hs:s<32):(I Ad ((U (An .u32) (A9q x (2^(min (A (s:Int)) (An .u32)))) &&& U (An .u32) 1).toNat)==0)=decide (x / 2^s % 2=0):=by
 have em:min (A (s:Int)) (An .u32)=s:=by rw[R];show min s 32=s;omega
 have hp:=BP s;rw[em,AAg _ (by omega)];have h1:=JI hx.1 (Aw hp);have h2:=Int.ediv_le_self (2^s) hx.1;exact WP ⟨h1,by omega⟩
def DO:Int->Nat->Nat
 | _,0=>0
 | N,e+1=>if N % 2=0 then DO (N / 2) e+1 else 0
theorem OJ:∀ (e:Nat) (N:Int),DO N e<=e
 | 0,_=>Ap _
 | e+1,N=>by
  simp only[DO];split
  ·have:=OJ e (N / 2);omega
  ·omega
theorem KD:∀ (e:Nat) (N:Int),(2:Int)^DO N e∣N
 | 0,N=>⟨N,by simp[DO]⟩
 | e+1,N=>by
  simp only[DO];split
  ·obtain⟨q,hq⟩:=KD e (N / 2);refine⟨q,?_⟩;rw[A2,AF,AA 2 q,<- AF,<- hq];omega
  ·exact⟨N,by simp⟩
theorem rD{e:Nat}{N:Int}(h:N % 2=0):N / 2^(DO (N / 2) e+1)=N / 2 / 2^DO (N / 2) e:=by
 obtain⟨q,hq⟩:=KD e (N / 2);have hp:=BP (DO (N / 2) e);have hN:N=2^(DO (N / 2) e+1)*q:=by
  rw[A2,AF,AA 2 q,<- AF,<- hq];omega
 generalize DO (N / 2) e=k at *
 have h1:N / 2^(k+1)=q:=by
  conv=>lhs;rw[hN]
  exact BX _ (by have:=BP (k+1);omega)
 have h2:N / 2 / 2^k=q:=by
  conv=>lhs;rw[hq]
  exact BX _ (by omega)
 rw[h1,h2]
theorem WQ:∀ e:Nat,DO 0 e=e
 | 0=>rfl
 | e+1=>by simp only[DO];rw[if_pos (by decide),show (0:Int) / 2=0 by decide,WQ e]
theorem Adw(N:Int)(h:N % 2=0):(M (N / 2).natAbs).length<=(M N.natAbs).length:=by
 apply MZ;have:=DJ (Cl N.natAbs).1;rw[Cx] at this;omega
theorem iG{N:Int}(h0:N ≠ 0):((M N.natAbs).getD 0 0 % 2=0)↔N % 2=0:=by
 have hl:0<(M N.natAbs).length:=by
  have:=Dp N.natAbs;omega
 have h:=uT (BR N.natAbs) (z:=0) (by simpa using hl);rw[Cx] at h;simp only[Nat.zero_div,Nat.zero_mod,Da,bK] at h;omega
theorem aN:∀ (e:Nat) (N:Int),(M N.natAbs).length<1048576->e<=1000000 ->
  Ar (.loop Qy) (Ke (V N) (e:Nat)) (.exit 0) (Ke (V (N / 2^DO N e)) ((e-DO N e:Nat):Int)):=by
 intro e;induction e with
 | zero =>
  intro N _ _;have e1:N / 2^DO N 0=N:=by simp[DO]
  rw[e1];exact Ao (Awe (V N) ((0:Nat):Int) (by decide)) (by nofun)
 | succ e ih =>
  intro N hN he;have ew:I O (((e+1:Nat):Int)-1)=(e:Int):=by rw[Bl (by omega) (by omega)];omega
  have hd:=W1 (neg:=(V N).1) (xs:=(V N).2) (OI N) 1 (by decide) (by rw[WO];exact hN);rw[show v (V N).1 (V N).2=N from A9y N,show (2:Int)^1=2 by decide] at hd;have c1:decide (((e+1:Nat):Int)>0)=true:=by rw[decide_eq_true_eq];omega
  have hlen:(V N).2.length=(M N.natAbs).length:=rfl;by_cases h2:N % 2=0
  ·have er:DO N (e+1)=DO (N / 2) e+1:=by simp only[DO];rw[if_pos h2]
   rw[er,rD h2,show e+1-(DO (N / 2) e+1)=e-DO (N / 2) e by omega];have r:=ih (N / 2) (by have:=Adw N h2;omega) (by omega);by_cases h0:N=0
   ·have k:=Awb (V N) ((e+1:Nat):Int) (N / 2) c1 (by rw[h0];rfl) hd;rw[ew] at k;exact C1.loop k r
   ·have hl:0<(M N.natAbs).length:=by have:=Dp N.natAbs;omega
    have k:=Awc (V N) ((e+1:Nat):Int) (N / 2) c1 (by rw[beq_eq_false_iff_ne];omega) (by rw[WP (AG (OI N) _),decide_eq_true_eq];exact (iG h0).2 h2) (by omega) hd;rw[ew] at k;exact C1.loop k r
  ·have h0:N ≠ 0:=by intro h;rw[h] at h2;exact h2 (by decide)
   have er:DO N (e+1)=0:=by simp only[DO];rw[if_neg h2]
   have hl:0<(M N.natAbs).length:=by have:=Dp N.natAbs;omega
   rw[er,Da,bK,Kk];exact Ao (Awd (V N) ((e+1:Nat):Int) c1 (by rw[beq_eq_false_iff_ne];omega) (by rw[WP (AG (OI N) _),decide_eq_false_iff_not];exact fun h=>h2 ((iG h0).1 h)) (by omega)) (by nofun)
def x(n e:Int):AV := o [F (A9i (n<0)),H (M n.natAbs).length (W (M n.natAbs)),D O e]
theorem iH{N:Int}{e:Nat}(hN:(M N.natAbs).length<1048576)(he:e<=1000000):RQ 162 [x N (e:Nat)] (x (N / 2^DO N e) ((e-DO N e:Nat):Int)):=by
 have h1:=Wr (neg:=(V N).1) (xs:=(V N).2) (OI N) (by rw[WO];omega);rw[show v (V N).1 (V N).2=N from A9y N] at h1;exact Awf (V N) (e:Nat) N (N / 2^DO N e) _ h1 (aN e N hN he)
theorem XW{N:Int}(h0:N ≠ 0){e:Nat}(he:e<=1000000)(hN:(M N.natAbs).length<1048576):∀ (r z:Nat),z+r=e->(2:Int)^z∣N ->
  Ar (.loop Sr) (Ma (V N) (e:Nat) (z:Nat)) (.exit 0) (Ma (V N) (e:Nat) ((z+DO (N / 2^z) r:Nat):Int)):=by
 intro r;induction r with
 | zero =>
  intro z hz _;exact Ao (Avz (V N) (e:Nat) (z:Nat) (by simp;omega)) (by nofun)
 | succ r ih =>
  intro z hz hd;have hin:=iE h0 hd;have e1:I O (Av (z:Int) 32)=((z / 32:Nat):Int):=by
   rw[BH (by omega),Bl (by omega) (by omega)];omega
  have e2:I B (AC (z:Int) 32)=((z % 32:Nat):Int):=by
   rw[Bu (by omega),BF];omega
  have ei:I O ((z:Int)+1)=((z+1:Nat):Int):=by rw[Bl (by omega) (by omega)];omega
  have hs:z % 32<32:=HR _ (by decide);have c1:decide ((z:Int)<(e:Int))=true:=by rw[decide_eq_true_eq];omega
  have hb:=uT (BR N.natAbs) hin;rw[Cx] at hb;obtain⟨q,hq⟩:=hd;have hpz:=BP z;have hq1:N / 2^z=q:=by
   conv=>lhs;rw[hq]
   exact BX _ (by omega)
  have hq2:(N.natAbs:Int) / 2^z=(q.natAbs:Int):=by
   have:(N.natAbs:Int)=2^z*(q.natAbs:Int):=by rw[hq,BT,Dj,Lk (Aw hpz)]
   rw[this];exact BX _ (by omega)
  rw[hq2] at hb;have ht:=Adv (AG (BR N.natAbs) (z / 32)) hs;have ct:(I Ad ((U (An .u32) (A9q ((V N).2.getD (A (I O (Av (z:Int) 32))) 0) (2^(min (A (I B (AC (z:Int) 32))) (An .u32)))) &&& U (An .u32) 1).toNat)==0)=decide (q % 2=0):=by
   rw[e1,e2,R];refine ht.trans ?_;rw[hb,decide_eq_decide];omega
  have hlen:(V N).2.length=(M N.natAbs).length:=rfl;rw[hq1];by_cases h2:q % 2=0
  ·have er:DO q (r+1)=DO (q / 2) r+1:=by simp only[DO];rw[if_pos h2]
   have hq3:N=2^(z+1)*(q / 2):=by rw[A2,AF,show 2*(q / 2)=q by omega];exact hq
   have hq4:N / 2^(z+1)=q / 2:=by
    conv=>lhs;rw[hq3]
    exact BX _ (by have:=BP (z+1);omega)
   have hr:=ih (z+1) (by omega) ⟨q / 2,hq3⟩;rw[hq4] at hr;have k:=Avx (V N) (e:Nat) (z:Nat) c1 (by rw[ct,decide_eq_true_eq];exact h2) (by rw[e1];omega) (by rw[e2];omega);rw[ei] at k;rw[er,show z+(DO (q / 2) r+1)=z+1+DO (q / 2) r by omega];exact C1.loop k hr
  ·have er:DO q (r+1)=0:=by simp only[DO];rw[if_neg h2]
   rw[er,FP];exact Ao (Avy (V N) (e:Nat) (z:Nat) c1 (by rw[ct,decide_eq_false_iff_not];exact h2) (by rw[e1];omega) (by rw[e2];omega)) (by nofun)
theorem aO{N:Int}{e:Nat}(hN:(M N.natAbs).length<1048576)(he:e<=1000000):RQ 130 [Ag N,D O (e:Nat)] (x (N / 2^DO N e) ((e-DO N e:Nat):Int)):=by
 have h1:=Nf (neg:=(V N).1) (xs:=(V N).2) (OI N) (by rw[WO];omega);rw[show v (V N).1 (V N).2=N from A9y N] at h1;by_cases h0:N=0
 ·subst h0;rw[WQ,Int.zero_ediv,P8];exact rB (V 0) (e:Nat) 0 rfl h1
 ·have hl:=XW h0 he hN e 0 (by omega) (by simp);rw[Da,bK,Cs] at hl;have hle:=OJ e N;have hs:=iF h0 (KD e N) (by omega) (by omega);have k:=rC (V N) (e:Nat) N _ _ (by rw[beq_eq_false_iff_ne];have:=Dp N.natAbs;omega) h1 hl hs;have ew:I O ((e:Int)-((DO N e:Nat):Int))=((e-DO N e:Nat):Int):=by rw[Bl (by omega) (by omega)];omega
  rw[ew] at k;exact k
def Fq(o:Bool)(ps:List (List Rn))(n:Int)(k:Int)(rs:List Rn)(d:Int)(i:Int):Al:=(Ac 2 (A9j (F o)::(Ac 1 (A9j (Y pc rs)::(A9j (D O d)::(A9j (D O i)::(A9j (Y z ps)::(A9j (D O n)::(A9j (D O k)::(Ac 19 []))))))))))
theorem Adx(o:Bool)(ps:List (List Rn))(n:Int)(k:Int)(rs:List Rn)(d:Int)(i:Int)(z:Int)(c1:A9i (i<=d)=true)(c2:A9i (z>256)=true)(n1:0<=i/\i<(rs.length:Int))(n2:RQ 177 [Ay (rs.getD (A i) z0)] (D O z)):Ar I1 (Fq o ps n k rs d i) .ret (Fq true ps n k rs d i):=(G Dc 400 [.b true,.v (Ay (rs.getD (A i) z0)),.r (D O z),.b true] [2,4,5,6,7,8,9] (T c1 (T n1 (T (BN n1) (T n2 (T c2 a0))))))
theorem Ady(o:Bool)(ps:List (List Rn))(n:Int)(k:Int)(rs:List Rn)(d:Int)(i:Int)(z:Int)(c1:A9i (i<=d)=true)(c2:A9i (z>256)=false)(n1:0<=i/\i<(rs.length:Int))(n2:RQ 177 [Ay (rs.getD (A i) z0)] (D O z)):Ar I1 (Fq o ps n k rs d i) .norm (Fq o ps n k rs d (I O (i+1))):=(G Dc 400 [.b true,.v (Ay (rs.getD (A i) z0)),.r (D O z),.b false] [2,4,5,6,7,8,9] (T c1 (T n1 (T (BN n1) (T n2 (T c2 a0))))))
theorem Adz(o:Bool)(ps:List (List Rn))(n:Int)(k:Int)(rs:List Rn)(d:Int)(i:Int)(c1:A9i (i<=d)=false):Ar I1 (Fq o ps n k rs d i) (.exit 2) (Fq o ps n k rs d i):=(G Dc 400 [.b false] [2,4,5,6,7,8,9] (T c1 a0))
def Nx:ICode:=e [c 10 .lss 9 8] (.seq (.cond 10 .skip (.exit 0)) (.seq (.block 1 (e [q 11 7 9 1,S 12 (.ld 11 11 1 true),C 4 12] (e [C 13 4,b 14 53 [13],C 5 14] (.seq (e [C 15 5,h 16 .gtr 15 16] (.cond 16 (e [S 2 (.mov (r true))] .ret) .skip)) (e [S 6 (.mov (i 0))] (.block 2 (.loop (.seq (e [C 17 6,C 18 5,c 19 .leq 17 18] (.cond 19 .skip (.exit 2))) (.seq (.block 3 (e [C 22 4,C 23 6,q 24 22 23 2,g 25 24 24 2,b 26 177 [25],h 27 .gtr 26 256] (.cond 27 (e [S 2 (.mov (r true))] .ret) .skip))) (rg [C 20 6,h 21 .add 20 1,C 6 21])))))))))) (rg [h 28 .add 9 1,C 9 28])))
def HE(o:Bool)(ps:List (List Rn))(n:Int)(k:Int):Al:=(Ac 2 (A9j (F o)::(Ac 4 (A9j (Y z ps)::(A9j (D O n)::(A9j (D O k)::(Ac 19 [])))))))
theorem Awi(o:Bool)(ps:List (List Rn))(n:Int)(k:Int)(d:Int)(c1:A9i (k<n)=true)(c2:A9i (d>16)=true)(n1:0<=k/\k<(ps.length:Int))(n2:RQ 53 [H ((ps.getD (A k) []).length) (pc (ps.getD (A k) []))] (D O d)):Ar Nx (HE o ps n k) .ret (HE true ps n k):=(A9m (C1.seq (G (t:=(Ac 2 (A9j (F o)::(Ac 4 (A9j (Y z ps)::(m n::(m k::(Ac 19 [])))))))) Dc 400 [.b true] [2,7,8,9] (T c1 a0)) (A8 (Ct (A9m (A9m (A9m (A8 (G Dc 400 [.v (H ((ps.getD (A k) []).length) (pc (ps.getD (A k) []))),.r (D O d),.b true] [2,7,8,9] (T n1 (T (Fv n1) (T n2 (T c2 a0))))) (by nofun)))))) (by nofun))))
theorem Awj(o:Bool)(ps:List (List Rn))(n:Int)(k:Int)(d i:Int)(c1:A9i (k<n)=true)(c2:A9i (d>16)=false)(n1:0<=k/\k<(ps.length:Int))(n2:RQ 53 [H ((ps.getD (A k) []).length) (pc (ps.getD (A k) []))] (D O d))(hl3:Ar (.loop I1) (Fq o ps n k (ps.getD (A k) []) d 0) (.exit 2) (Fq o ps n k (ps.getD (A k) []) d i)):Ar Nx (HE o ps n k) .norm (HE o ps n (I O (k+1))):=(A9m (C1.seq (G (t:=(Ac 2 (A9j (F o)::(Ac 4 (A9j (Y z ps)::(m n::(m k::(Ac 19 [])))))))) Dc 400 [.b true] [2,7,8,9] (T c1 a0)) (C1.seq (B_ (A9m (A9m (A9m (C1.seq (G Dc 400 [.v (H ((ps.getD (A k) []).length) (pc (ps.getD (A k) []))),.r (D O d),.b false] [2,4,5,6,7,8,9] (T n1 (T (Fv n1) (T n2 (T c2 a0))))) (C1.block hl3)))))) (G Dc 400 [] [2,7,8,9] a0))))
theorem Awk(o:Bool)(ps:List (List Rn))(n:Int)(k:Int)(c1:A9i (k<n)=false):Ar Nx (HE o ps n k) (.exit 0) (HE o ps n k):=(A9m (A8 (G Dc 400 [.b false] [2,7,8,9] (T c1 a0)) (by nofun)))
def uU(o:Bool)(ps:List (List Rn))(n:Int)(k:Int):Al:=(Ac 2 (A9j (F o)::(Ac 4 (A9j (Y z ps)::(A9j (D O n)::(A9j (D O k)::(Ac 19 [])))))))
theorem Aea(o:Bool)(ps:List (List Rn))(n:Int)(k:Int)(d i:Int)(c1:A9i (k<n)=true)(c2:A9i (d>16)=false)(n1:0<=k/\k<(ps.length:Int))(n2:RQ 53 [H ((ps.getD (A k) []).length) (pc (ps.getD (A k) []))] (D O d))(hl3:Ar (.loop I1) (Fq o ps n k (ps.getD (A k) []) d 0) .ret (Fq true ps n k (ps.getD (A k) []) d i)):Ar uB (uU o ps n k) .ret (uU true ps n k):=(A9m (C1.seq (G (t:=(Ac 2 (A9j (F o)::(Ac 4 (A9j (Y z ps)::(m n::(m k::(Ac 19 [])))))))) Dc 400 [.b true] [2,7,8,9] (T c1 a0)) (A8 (Ct (A9m (A9m (A9m (C1.seq (G Dc 400 [.v (H ((ps.getD (A k) []).length) (pc (ps.getD (A k) []))),.r (D O d),.b false] [2,4,5,6,7,8,9] (T n1 (T (Fv n1) (T n2 (T c2 a0))))) (Ct (fH (t':=(Ac 2 (A9j (F true)::(Ac 4 (A9j (Y z ps)::(A9j (D O n)::(A9j (D O k)::(Ac 19 [])))))))) [2,7,8,9] hl3 (by kernel_rfl)))))))) (by nofun))))
theorem rE(ps:List (List Rn))(n k:Int)(hl1:Ar (.loop Nx) (HE false ps (ps.length:Int) 0) (.exit 0) (HE false ps n k)):RQ 147 [Y z ps] (F false):=A9g Sw (Ac 2 (A9j (F false)::(Ac 26 []))) (A9t (C1.seq (G Dc 400 [] [2,7,8,9] a0) (C1.seq (C1.block hl1) (G Dc 400 [] [2] a0))))
theorem rF(ps:List (List Rn))(n k:Int)(hl1:Ar (.loop Nx) (HE false ps (ps.length:Int) 0) .ret (HE true ps n k)):RQ 147 [Y z ps] (F true):=A9g Sw (Ac 2 (A9j (F true)::(Ac 4 (A9j (Y z ps)::(A9j (D O n)::(A9j (D O k)::(Ac 19 []))))))) (A9t (C1.seq (G Dc 400 [] [2,7,8,9] a0) (A8 (Ct hl1) (by nofun))))
def Zb(x:Int):Bool:=decide (256<(M x.natAbs).length)
def D_(p:LI):Bool:=decide (17<(A9l p).length) || (A9l p).any Zb
theorem rG{p:LI}{f:Int->Bool}(h:p.any f=false)(i:Nat)(hi:i<p.length):f (p.getD i 0)=false:=by
 rw[X1] at h;rw[Z,Ah hi];simpa using h _ (CY hi)
theorem Aeb{p:LI}{f:Int->Bool}(h:p.any f=true):∃ i,i<p.length/\f (p.getD i 0)=true:=by
 obtain⟨x,hx,hf⟩:=Ahp.1 h;obtain⟨i,hi,rfl⟩:=JK.1 hx;refine⟨i,hi,?_⟩;rw[Z,Ah hi];simpa using hf
section
variable {rs:List Rn} {ps:List (List Rn)} {n k:Int}
theorem WR(hg:∀ r∈rs,AO 1048576 r)(hN:rs.length<=1048576) :
  (D_ (P rs)=false->(A9l (P rs)).length<=17->Ar (.loop I1) (Fq false ps n k rs (((A9r (P rs) rs.length:Nat):Int)-1) 0) (.exit 2) (Fq false ps n k rs (((A9r (P rs) rs.length:Nat):Int)-1) (A9r (P rs) rs.length:Nat))) /\
  (D_ (P rs)=true->(A9l (P rs)).length<=17->∃ j:Nat,Ar (.loop I1) (Fq false ps n k rs (((A9r (P rs) rs.length:Nat):Int)-1) 0) .ret (Fq true ps n k rs (((A9r (P rs) rs.length:Nat):Int)-1) (j:Nat))):=by
 have hle:=GX (P rs) rs.length;have hlen:(A9l (P rs)).length=A9r (P rs) rs.length:=by rw[F9,A9z]
 have step:∀ t:Nat,t<A9r (P rs) rs.length->Zb (Q (rs.getD t z0))=false->Ar I1 (Fq false ps n k rs (((A9r (P rs) rs.length:Nat):Int)-1) (t:Nat)) .norm (Fq false ps n k rs (((A9r (P rs) rs.length:Nat):Int)-1) ((t+1:Nat):Int)):=by
  intro t ht hb;have ei:I O ((t:Int)+1)=((t+1:Nat):Int):=by rw[Bl (by omega) (by omega)];omega
  obtain⟨g1,g2⟩:=Bk hg t;have k2:=Ady false ps n k rs (((A9r (P rs) rs.length:Nat):Int)-1) (t:Nat) (((M (Q (rs.getD t z0)).natAbs).length:Nat):Int) (by simp;omega) (by unfold Zb at hb;simp only[decide_eq_false_iff_not] at hb |-;omega) (by omega) (by rw[R];exact W0 g1 g2);rwa [ei] at k2
 refine⟨fun hl _ => ?_,fun hl h17 => ?_⟩
 ·unfold D_ at hl;rw[GT] at hl;have h:=Gk (prog:=AZ) (c:=I1) (ex := .exit 2) (fun t=>Fq false ps n k rs (((A9r (P rs) rs.length:Nat):Int)-1) (t:Nat)) (A9r (P rs) rs.length) (by nofun) (Adz false ps n k rs _ _ (by simp;omega)) 0 (By _) (fun t _ h2=>step t h2 (by
   have:=rG hl.2 t (by omega);rwa [Dk,CO] at this))
  exact h
 ·unfold D_ at hl;rw[decide_eq_false (by omega),Bool.false_or] at hl;obtain⟨i,hi,hf⟩:=Aeb hl;rcases Ik (fun j=>Zb (Q (rs.getD j z0))) (A9r (P rs) rs.length) _ 0 (by rw[Cs]) with h | ⟨j,_,h2,h3,h4⟩
  ·have:=h i (by omega) (by omega);rw[Dk,CO] at hf;rw[hf] at this;cases this
  ·obtain⟨g1,g2⟩:=Bk hg j;have k1:=Adx false ps n k rs (((A9r (P rs) rs.length:Nat):Int)-1) (j:Nat) (((M (Q (rs.getD j z0)).natAbs).length:Nat):Int) (by simp;omega) (by unfold Zb at h3;simp only[decide_eq_true_eq] at h3 |-;omega) (by omega) (by rw[R];exact W0 g1 g2);exact⟨j,Gk (prog:=AZ) (c:=I1) (ex := .ret) (fun t=>Fq false ps n k rs (((A9r (P rs) rs.length:Nat):Int)-1) (t:Nat)) j (by nofun) k1 0 (By _) (fun t _ h6=>step t (by omega) (h4 t (by omega) h6))⟩
end
theorem M3{α:Type}{l:List (List α)}{i:Nat}(h:i<l.length):l.getD i []∈l:=by
 rw[Z,Ah h];exact CY h
theorem TU{ps:List (List Rn)}(hg:∀ p∈ps,(∀ r∈p,AO 1048576 r)/\p.length<=1048576)(hN:ps.length<=1048576):RQ 147 [Y z ps] (F (ps.any fun p=>D_ (P p))):=by
 have hdeg:∀ t,t<ps.length->RQ 53 [H (ps.getD t []).length (pc (ps.getD t []))] (D O (((A9r (P (ps.getD t [])) (ps.getD t []).length:Nat):Int)-1)):=fun t ht=>Hf (hg _ (M3 ht)).1 (hg _ (M3 ht)).2;have step:∀ t:Nat,t<ps.length->D_ (P (ps.getD t []))=false->Ar Nx (HE false ps (ps.length:Nat) (t:Nat)) .norm (HE false ps (ps.length:Nat) ((t+1:Nat):Int)):=by
  intro t ht hl;have ei:I O ((t:Int)+1)=((t+1:Nat):Int):=by rw[Bl (by omega) (by omega)];omega
  obtain⟨g1,g2⟩:=hg _ (M3 ht);have hlen:(A9l (P (ps.getD t []))).length=A9r (P (ps.getD t [])) (ps.getD t []).length:=by rw[F9,A9z]
  have h17:(A9l (P (ps.getD t []))).length<=17:=by
   unfold D_ at hl;rw[GT,decide_eq_false_iff_not] at hl;omega
  have k2:=Awj false ps (ps.length:Nat) (t:Nat) (((A9r (P (ps.getD t [])) (ps.getD t []).length:Nat):Int)-1) _ (by simp;omega) (by rw[decide_eq_false_iff_not];omega) (by omega) (by rw[R];exact hdeg t ht) (by rw[R];exact (WR g1 g2).1 hl h17);rwa [ei] at k2
 rcases Ik (fun j=>D_ (P (ps.getD j []))) ps.length _ 0 (by rw[Cs]) with h | ⟨j,_,h2,h3,h4⟩
 ·have hany:(ps.any fun p=>D_ (P p))=false:=by
   rw[X1];intro p hp;obtain⟨i,hi,rfl⟩:=JK.1 hp;have:=h i (by omega) hi;rw[Z,Ah hi] at this;simpa using this
  rw[hany];exact rE ps _ _ (Gk (prog:=AZ) (c:=Nx) (ex := .exit 0) (fun t=>HE false ps (ps.length:Nat) (t:Nat)) ps.length (by nofun) (Awk false ps _ _ (by simp)) 0 (By _) (fun t _ h6=>step t h6 (h t (by omega) h6)))
 ·have hany:(ps.any fun p=>D_ (P p))=true:=by
   rw[Ahp];exact⟨_,M3 h2,h3⟩
  rw[hany];obtain⟨g1,g2⟩:=hg _ (M3 h2);have hlen:(A9l (P (ps.getD j []))).length=A9r (P (ps.getD j [])) (ps.getD j []).length:=by rw[F9,A9z]
  have out:Ar Nx (HE false ps (ps.length:Nat) (j:Nat)) .ret (HE true ps (ps.length:Nat) (j:Nat)):=by
   by_cases h17:(A9l (P (ps.getD j []))).length<=17
   ·obtain⟨i,hi⟩:=(WR (ps:=ps) (n:=(ps.length:Nat)) (k:=(j:Nat)) g1 g2).2 h3 h17;exact Aea false ps (ps.length:Nat) (j:Nat) (((A9r (P (ps.getD j [])) (ps.getD j []).length:Nat):Int)-1) _ (by simp;omega) (by rw[decide_eq_false_iff_not];omega) (by omega) (by rw[R];exact hdeg j h2) (by rw[R];exact hi)
   ·exact Awi false ps (ps.length:Nat) (j:Nat) (((A9r (P (ps.getD j [])) (ps.getD j []).length:Nat):Int)-1) (by simp;omega) (by rw[decide_eq_true_eq];omega) (by omega) (by rw[R];exact hdeg j h2)
  exact rF ps _ _ (Gk (prog:=AZ) (c:=Nx) (ex := .ret) (fun t=>HE false ps (ps.length:Nat) (t:Nat)) j (by nofun) out 0 (By _) (fun t _ h6=>step t (by omega) (h4 t (by omega) h6)))
theorem A3m(rs ts:List Rn)(n1:RQ 46 [Y pc rs] (L 2 ts.length (pc ts))):RQ 21 [Y pc rs] (D O (I O ((ts.length:Int)-1))):=A9x (fn:=cN) I' rfl 400 rfl [.r (L 2 ts.length (pc ts))] (T n1 a0)
def TV(n:Int)(x:Int):Al:=(Ac 4 (A9j (D O n)::(A9j (D Ad x)::(Ac 23 []))))
theorem A3n(n:Int)(x:Int)(c1:A9i (x>0)=true):Ar cU (TV n x) .norm (TV (I O (n+1)) (A9q x (2^(min (A 1) (An .u32))))):=(G I' 400 [.b true] [4,5] (T c1 (T (show ¬ (1:Int)<0 from (by decide)) a0)))
theorem uV(n:Int)(x:Int)(c1:A9i (x>0)=false):Ar cU (TV n x) (.exit 0) (TV n x):=(G I' 400 [.b false] [4,5] (T c1 a0))
theorem Aec(b:Bool)(xs ms:LI)(c1:((ms.length:Int)==0)=true)(n1:RQ 99 [Y W xs] (L 1 ms.length (W ms))):RQ 51 [o [F b,Y W xs]] (D O 0):=A9g Ym (Ac 2 (A9j (D O 0)::(Ac 26 []))) (A9m (A9m (A9m (A9t (A8 (G I' 400 [.r (L 1 ms.length (W ms)),.b true] [2] (T n1 (T c1 a0))) (by nofun))))))
theorem Aed(b:Bool)(xs ms:LI)(n x:Int)(c1:((ms.length:Int)==0)=false)(n1:RQ 99 [Y W xs] (L 1 ms.length (W ms)))(n2:0<=(I O ((ms.length:Int)-1))/\(I O ((ms.length:Int)-1))<(ms.length:Int))(hl3:Ar (.loop cU) (TV (I O (32*(I O ((ms.length:Int)-1)))) (ms.getD (A (I O ((ms.length:Int)-1))) 0)) (.exit 0) (TV n x)):RQ 51 [o [F b,Y W xs]] (D O n):=A9g Ym (Ac 2 (A9j (D O n)::(Ac 26 []))) (A9m (A9m (A9m (A9t (C1.seq (G I' 400 [.r (L 1 ms.length (W ms)),.b false,.v (D Ad (ms.getD (A (I O ((ms.length:Int)-1))) 0))] [4,5] (T n1 (T c1 (T n2 (T (AAe n2) a0))))) (C1.seq (C1.block hl3) (G I' 400 [] [2] a0)))))))
theorem PZ{rs:List Rn}(hg:∀ r∈rs,AO 1048576 r)(hN:rs.length<=1048576):RQ 21 [Y pc rs] (D O (((A9l (P rs)).length:Nat)-1:Int)):=by
 have htr:=Fj hg hN;have hl:=Bp (P rs);rw[A9z] at hl;have hpk:pk (A9l (P rs))=pc ((A9l (P rs)).map V):=rfl;(first|rw[hpk,<- N (f:=V)] at htr|(rw[hpk] at htr;unfold Y at htr;rw[<- N (f:=V)] at htr));have h:=A3m rs _ htr;rw[Bl (by omega) (by rw[N];omega),N] at h;exact h
theorem rH{x:Nat}(h:x ≠ 0):DD x=DD (x / 2)+1:=by
 unfold DD;rw[if_neg h];by_cases h2:x / 2=0
 ·have:x=1:=by omega
  subst this;decide
 ·rw[if_neg h2,Hd x 1 (by simpa using h2)]
theorem iI:∀ (f x:Nat) (n:Nat),x<=f->x<4294967296->n+DD x<=2251799813685248->Ar (.loop cU) (TV (n:Nat) (x:Nat)) (.exit 0) (TV ((n+DD x:Nat):Int) 0):=by
 intro f;induction f with
 | zero =>
  intro x n hx _ _;have:x=0:=by omega
  subst this;exact Ao (uV _ _ (by simp)) (by nofun)
 | succ f ih =>
  intro x n hx hb hn;by_cases h0:x=0
  ·subst h0;exact Ao (uV _ _ (by simp)) (by nofun)
  ·have k:=A3n (n:Nat) (x:Nat) (by simp;omega);have e1:A9q (x:Int) (2^(min (A 1) (An .u32)))=((x / 2:Nat):Int):=nE x 1 (by omega);rw[e1,Bl (by omega) (by omega),show (n:Int)+1=((n+1:Nat):Int) by omega] at k;have hbl:=rH h0;have h:=ih (x / 2) (n+1) (by omega) (by omega) (by omega);rw[show n+1+DD (x / 2)=n+DD x by omega] at h;exact C1.loop k h
theorem rI{neg:Bool}{xs:LI}(hu:AP xs)(hN:xs.length<=35184372088832):RQ 51 [o [F neg,Y W xs]] (D O ((DD (v neg xs).natAbs:Nat):Int)):=by
 have hm:=Eh (xs:=xs) hN;rw[Pk (neg:=neg) hu] at hm;have l1:=EG (neg:=neg) hu;generalize v neg xs=a at *
 by_cases h0:a.natAbs=0
 ·have h:=Aec neg xs _ (by rw[h0];rfl) hm;rw[show DD a.natAbs=0 by unfold DD;rw[if_pos h0]];exact h
 ·obtain⟨t1,x,t2,t3,t4,t5⟩:=YF h0;have e1:I O ((((M a.natAbs).length:Nat):Int)-1)=(((M a.natAbs).length-1:Nat):Int):=by rw[Bl (by omega) (by omega)];omega
  have hlog:Ck x<32:=(PD t3).2 t4;have hbx:DD x=Ck x+1:=by unfold DD;rw[if_neg t3]
  have e3:I O (32*(((M a.natAbs).length-1:Nat):Int))=((32*((M a.natAbs).length-1):Nat):Int):=by rw[Bl (by omega) (by omega)];omega
  have hl:=iI x x (32*((M a.natAbs).length-1)) (Ap _) t4 (by omega);have h:=Aed neg xs (M a.natAbs) _ _ (by rw[beq_eq_false_iff_ne];omega) hm (by rw[e1];omega) (by rw[e1,R,t2,e3];exact hl);have e2:DD a.natAbs=32*((M a.natAbs).length-1)+DD x:=by
   rw[hbx];unfold DD;rw[if_neg h0,Hd a.natAbs (32*((M a.natAbs).length-1)) (by rw[t5];exact t3),t5];omega
  rw[e2];exact h
theorem rJ{n k:Nat}(h:n<32*k):Br k ((2:Int)^n):=by
 unfold Br;rw[NN];show 2^n<4294967296^k;rw[show (4294967296:Nat)=2^32 by decide,<- A8z];exact QH (by decide) h
theorem SW{a b:Nat}(ha:a<=4096)(hb:b<=4096):I O ((if (b:Int)>(a:Int) then (b:Int) else (a:Int))-(a:Int))=((max a b-a:Nat):Int):=by
 split <;> rw[Bl (by omega) (by omega)] <;> omega
theorem SX{a b:Nat}(ha:a<=4096)(hb:b<=4096):I O ((if (b:Int)>(a:Int) then (b:Int) else (a:Int))-(b:Int))=((max a b-b:Nat):Int):=by
 split <;> rw[Bl (by omega) (by omega)] <;> omega
theorem iJ{a b:Nat}(ha:a<=4096)(hb:b<=4096):I O ((if (b:Int)>(a:Int) then (b:Int) else (a:Int))+1)=((max a b+1:Nat):Int):=by
 split <;> rw[Bl (by omega) (by omega)] <;> omega
theorem iK{a b c:Int}(hc:0<c):CR (a*c) (b*c)=CR a b:=by
 unfold CR;have h1:a*c<b*c↔a<b:=rK hc;have h2:b*c<a*c↔b<a:=rK hc;simp only[h1,h2]
theorem Awl(X Y:Int)(a b:Nat):CR (X*2^(max a b-a)) (Y*2^(max a b-b))=CR (X*2^b) (Y*2^a):=by
 have h:=iK (a:=X*2^(max a b-a)) (b:=Y*2^(max a b-b)) (BP (min a b));rw[<- h,AF,AF,<- BG,<- BG,show max a b-a+min a b=b by omega,show max a b-b+min a b=a by omega]
def j(r:Rn)(e:Int):AV := o [F r.1,H r.2.length (W r.2),D O e]
theorem P_{r:Rn}(hr:AO 200 r){n:Nat}(hn:n<=4096):RQ 104 [Ay r,D O (n:Nat)] (Ag (Q r*2^n))/\RQ 84 [Ay r,D O (n:Nat)] (CI (Q r*2^n))/\Br 330 (Q r*2^n):=by
 have h2:=hr.2;exact⟨YK hr.1 n (by omega) (by omega),R0 hr.1 n (by omega),(hr.fits.mul (rJ (k:=129) (by omega))).mono (by omega)⟩
def Bm(x:Int)(a:Nat)(y:Int)(b:Nat):Int:=CR (x*2^b) (y*2^a)
def IA(x:Int)(a:Nat)(y:Int)(b:Nat):Int:=x*2^(max a b-a)+y*2^(max a b-b)
def Qa(x:Int)(a:Nat)(y:Int)(b:Nat):Int:=IA x a y b / 2^DO (IA x a y b) (max a b+1)
def ND(x:Int)(a:Nat)(y:Int)(b:Nat):Nat:=max a b+1-DO (IA x a y b) (max a b+1)
section
variable {r t:Rn} (hr:AO 200 r) (ht:AO 200 t) {a b:Nat} (ha:a<=4096) (hb:b<=4096)
include hr ht ha hb
theorem Ir:RQ 55 [j r (a:Nat),j t (b:Nat)] (D O (Bm (Q r) a (Q t) b)):=by
 obtain⟨x1,_,x3⟩:=P_ hr (n:=max a b-a) (by omega);obtain⟨y1,_,y3⟩:=P_ ht (n:=max a b-b) (by omega);have g1:=BL x3;have g2:=BL y3;have p:=Adu (na:=(V (Q r*2^(max a b-a))).1) (nb:=(V (Q t*2^(max a b-b))).1) g1.1 g2.1 (by have:=g1.2;omega) (by have:=g2.2;omega);rw[show ∀ n,v (V n).1 (V n).2=n from A9y,show ∀ n,v (V n).1 (V n).2=n from A9y,Awl] at p;exact A3j r t (a:Nat) (b:Nat) _ _ _ (by rw[SW ha hb];exact x1) (by rw[SX ha hb];exact y1) p
theorem GD:RQ 33 [j r (a:Nat),j t (b:Nat)] (D O (Bm (Q r) a (Q t) b)):=by
 obtain⟨_,x2,x4⟩:=P_ hr (n:=b) hb;obtain⟨_,y2,y4⟩:=P_ ht (n:=a) ha;have g3:=BL x4;have g4:=BL y4;have q:=Adt (na:=(V (Q r*2^b)).1) (nb:=(V (Q t*2^a)).1) g3.1 g4.1 (by have:=g3.2;omega) (by have:=g4.2;omega);rw[show ∀ n,v (V n).1 (V n).2=n from A9y,show ∀ n,v (V n).1 (V n).2=n from A9y] at q;exact A3k r t (a:Nat) (b:Nat) _ _ _ x2 y2 q
theorem Zc:Br 331 (IA (Q r) a (Q t) b):=by
 obtain⟨_,_,x3⟩:=P_ hr (n:=max a b-a) (by omega);obtain⟨_,_,y3⟩:=P_ ht (n:=max a b-b) (by omega);exact x3.add y3
theorem RM:RQ 133 [j r (a:Nat),j t (b:Nat)] (x (Qa (Q r) a (Q t) b) ((ND (Q r) a (Q t) b:Nat):Int)):=by
 obtain⟨x1,_,x3⟩:=P_ hr (n:=max a b-a) (by omega);obtain⟨y1,_,y3⟩:=P_ ht (n:=max a b-b) (by omega);have hX:=x3.len;have hY:=y3.len;have p:=Aac (a:=Q r*2^(max a b-a)) (b:=Q t*2^(max a b-b)) (by omega) (by omega);have hZl:=(Zc hr ht ha hb).len;have k1:=aO (N:=IA (Q r) a (Q t) b) (e:=max a b+1) (by omega) (by omega);exact Awa r t (a:Nat) (b:Nat) _ _ _ _ _ (by rw[SW ha hb];exact x1) (by rw[SX ha hb];exact y1) p (by rw[iJ ha hb];exact k1)
theorem rL:RQ 121 [j r (a:Nat),j t (b:Nat)] (x (Qa (Q r) a (Q t) b) ((ND (Q r) a (Q t) b:Nat):Int)):=by
 obtain⟨_,x2,x3⟩:=P_ hr (n:=max a b-a) (by omega);obtain⟨_,y2,y3⟩:=P_ ht (n:=max a b-b) (by omega);have q:=QC (na:=(V (Q r*2^(max a b-a))).1) (nb:=(V (Q t*2^(max a b-b))).1) (BL x3).1 (BL y3).1 (by have:=(BL x3).2;omega) (by have:=(BL y3).2;omega);rw[show ∀ n,v (V n).1 (V n).2=n from A9y,show ∀ n,v (V n).1 (V n).2=n from A9y] at q;have hZl:=(Zc hr ht ha hb).len;have k2:=iH (N:=IA (Q r) a (Q t) b) (e:=max a b+1) (by omega) (by omega);exact Awg r t (a:Nat) (b:Nat) _ _ _ _ _ (by rw[SW ha hb];exact x2) (by rw[SX ha hb];exact y2) q (by rw[iJ ha hb];exact k2)
end
def Jf(rs:List Rn)(ss:List Rn)(n:Int)(m:Int)(k:Nat)(os:List Rn)(l:Int)(i:Int):Al:=(A9j (Y pc rs)::(A9j (Y pc ss)::(Ac 3 (A9j (D O n)::(A9j (D O m)::(A9n 2 k (pc os)::(Ac 12 (A9j (D O l)::(A9j (D O i)::(Ac 30 []))))))))))
theorem Awm(rs:List Rn)(ss:List Rn)(n:Int)(m:Int)(k:Nat)(os:List Rn)(l:Int)(i:Int)(c1:A9i (i<l)=true)(c2:A9i (i<n)=true)(c3:A9i (i<m)=true)(n1:0<=i/\i<(rs.length:Int))(n2:0<=i/\i<(k:Int))(n3:os.length=k)(n4:(os.set (A i) (rs.getD (A i) z0)).length=k)(n5:0<=i/\i<(ss.length:Int))(n6:RQ 111 [Ay ((os.set (A i) (rs.getD (A i) z0)).getD (A i) z0),Ay (ss.getD (A i) z0)] (Ag ((Q ((os.set (A i) (rs.getD (A i) z0)).getD (A i) z0))+(Q (ss.getD (A i) z0))))):Ar Oj (Jf rs ss n m k os l i) .norm (Jf rs ss n m k ((os.set (A i) (rs.getD (A i) z0)).set (A i) (V ((Q ((os.set (A i) (rs.getD (A i) z0)).getD (A i) z0))+(Q (ss.getD (A i) z0))))) l (I O (i+1))):=(G Dc 400 [.b true,.b true,.v (Ay (rs.getD (A i) z0)),.l (pc (os.set (A i) (rs.getD (A i) z0))),.b true,.v (Ay ((os.set (A i) (rs.getD (A i) z0)).getD (A i) z0)),.v (Ay (ss.getD (A i) z0)),.r (Ag ((Q ((os.set (A i) (rs.getD (A i) z0)).getD (A i) z0))+(Q (ss.getD (A i) z0)))),.l (pc ((os.set (A i) (rs.getD (A i) z0)).set (A i) (V ((Q ((os.set (A i) (rs.getD (A i) z0)).getD (A i) z0))+(Q (ss.getD (A i) z0))))))] [0,1,5,6,7,20,21] (T c1 (T c2 (T n1 (T (BN n1) (T n2 (T (FA (r:=rs.getD (A i) z0) n3 n2) (T c3 (T n2 (T (F_ n4 n2) (T n5 (T (BN n5) (T n6 (T n2 (T (FA (r:=V ((Q ((os.set (A i) (rs.getD (A i) z0)).getD (A i) z0))+(Q (ss.getD (A i) z0)))) n4 n2) a0)))))))))))))))
theorem Awn(rs:List Rn)(ss:List Rn)(n:Int)(m:Int)(k:Nat)(os:List Rn)(l:Int)(i:Int)(c1:A9i (i<l)=true)(c2:A9i (i<n)=true)(c3:A9i (i<m)=false)(n1:0<=i/\i<(rs.length:Int))(n2:0<=i/\i<(k:Int))(n3:os.length=k):Ar Oj (Jf rs ss n m k os l i) .norm (Jf rs ss n m k (os.set (A i) (rs.getD (A i) z0)) l (I O (i+1))):=(G Dc 400 [.b true,.b true,.v (Ay (rs.getD (A i) z0)),.l (pc (os.set (A i) (rs.getD (A i) z0))),.b false] [0,1,5,6,7,20,21] (T c1 (T c2 (T n1 (T (BN n1) (T n2 (T (FA (r:=rs.getD (A i) z0) n3 n2) (T c3 a0))))))))
theorem Awo(rs:List Rn)(ss:List Rn)(n:Int)(m:Int)(k:Nat)(os:List Rn)(l:Int)(i:Int)(c1:A9i (i<l)=true)(c2:A9i (i<n)=false)(c3:A9i (i<m)=true)(n1:0<=i/\i<(k:Int))(n2:os.length=k)(n3:0<=i/\i<(ss.length:Int))(n4:RQ 111 [Ay (os.getD (A i) z0),Ay (ss.getD (A i) z0)] (Ag ((Q (os.getD (A i) z0))+(Q (ss.getD (A i) z0))))):Ar Oj (Jf rs ss n m k os l i) .norm (Jf rs ss n m k (os.set (A i) (V ((Q (os.getD (A i) z0))+(Q (ss.getD (A i) z0))))) l (I O (i+1))):=(G Dc 400 [.b true,.b false,.b true,.v (Ay (os.getD (A i) z0)),.v (Ay (ss.getD (A i) z0)),.r (Ag ((Q (os.getD (A i) z0))+(Q (ss.getD (A i) z0)))),.l (pc (os.set (A i) (V ((Q (os.getD (A i) z0))+(Q (ss.getD (A i) z0))))))] [0,1,5,6,7,20,21] (T c1 (T c2 (T c3 (T n1 (T (F_ n2 n1) (T n3 (T (BN n3) (T n4 (T n1 (T (FA (r:=V ((Q (os.getD (A i) z0))+(Q (ss.getD (A i) z0)))) n2 n1) a0)))))))))))
theorem Awp(rs:List Rn)(ss:List Rn)(n:Int)(m:Int)(k:Nat)(os:List Rn)(l:Int)(i:Int)(c1:A9i (i<l)=false):Ar Oj (Jf rs ss n m k os l i) (.exit 0) (Jf rs ss n m k os l i):=(G Dc 400 [.b false] [0,1,5,6,7,20,21] (T c1 a0))
def Hm(rs ss:List Rn)(a b j:Nat):Rn:=if j<b then V (Q (if j<a then rs.getD j z0 else z0)+Q (ss.getD j z0)) else (if j<a then rs.getD j z0 else z0)
theorem Aee{rs ss:List Rn}{a b:Nat}(ha:a<=rs.length)(hb:b<=ss.length)(hN:rs.length<=1048576)(hM:ss.length<=1048576)(hr:∀ r∈rs,AO 1048575 r)(hs:∀ r∈ss,AO 1048575 r) :
  Ar (.loop Oj) (Jf rs ss a b (max a b) (At (max a b) z0) (max a b:Nat) 0) (.exit 0) (Jf rs ss a b (max a b) ((Aq (max a b)).map (Hm rs ss a b)) (max a b:Nat) (max a b:Nat)):=by
 have h:=C1.up (prog:=AZ) (c:=Oj) (ex := .exit 0) (fin:=Jf rs ss a b (max a b) ((Aq (max a b)).map (Hm rs ss a b)) (max a b:Nat) (max a b:Nat))
  (fun i=>Jf rs ss a b (max a b) (EH (Hm rs ss a b) i (max a b-i)) (max a b:Nat) (i:Nat)) (max a b) (by nofun) ?_ ?_ 0 (By _)
 ·simp only[Na,Kk] at h;exact h
 ·intro i hi;obtain⟨r,hr'⟩:∃ r,max a b-i=r+1:=⟨max a b-i-1,by omega⟩;have e2:max a b-(i+1)=r:=by omega
  have ei:I O ((i:Int)+1)=((i+1:Nat):Int):=by rw[Bl (by omega) (by omega)];omega
  have hlen:(EH (Hm rs ss a b) i (r+1)).length=max a b:=by rw[KS];omega
  have hz:=mQ (Hm rs ss a b) i r;have hset:=Oz (Hm rs ss a b) i r;obtain⟨gr1,gr2⟩:=Bk hr i;obtain⟨gs1,gs2⟩:=Bk hs i;simp only[hr',e2];generalize EH (Hm rs ss a b) i (r+1)=os at *
  by_cases h1:i<a <;> by_cases h2:i<b
  ·have ho:(os.set i (rs.getD i z0)).getD i z0=rs.getD i z0:=by simp[Z,show i<os.length by omega]
   have k:=Awm rs ss a b (max a b) os (max a b:Nat) (i:Nat) (by simp;omega) (by simp;omega) (by simp;omega) (by omega) (by omega) hlen (by simpa using hlen) (by omega) (by
    simp only[R,ho];exact Pn gr1 gs1 (by omega) (by omega))
   refine k.to rfl ?_;simp only[R,ei,ho,Sb];rw[<- hset];simp only[Hm,if_pos h1,if_pos h2]
  ·have k:=Awn rs ss a b (max a b) os (max a b:Nat) (i:Nat) (by simp;omega) (by simp;omega) (by simp;omega) (by omega) (by omega) hlen;refine k.to rfl ?_;simp only[R,ei];rw[<- hset];simp only[Hm,if_pos h1,if_neg h2]
  ·have k:=Awo rs ss a b (max a b) os (max a b:Nat) (i:Nat) (by simp;omega) (by simp;omega) (by simp;omega) (by omega) hlen (by omega) (by
    simp only[R,hz];exact Pn (Mp 0).1 gs1 (by decide) (by omega))
   refine k.to rfl ?_;simp only[R,ei,hz];rw[<- hset];simp only[Hm,if_neg h1,if_pos h2]
  ·omega
 ·have k:=Awp rs ss a b (max a b) ((Aq (max a b)).map (Hm rs ss a b)) (max a b:Nat) (max a b:Nat) (by simp);simp only[P8,Nb];exact k
theorem Awq(rs ss os ts:List Rn)(drs dss:Int)(k M:Nat)(n1:RQ 53 [Y pc rs] (D O drs))(n2:RQ 53 [Y pc ss] (D O dss))(n3:0<=(if (I O (dss+1))>(I O (drs+1)) then (I O (dss+1)) else (I O (drs+1)))/\(if (I O (dss+1))>(I O (drs+1)) then (I O (dss+1)) else (I O (drs+1)))<=1048576)(hl4:Ar (.loop Oj) ((A9j (Y pc rs)::(A9j (Y pc ss)::(Ac 3 (A9j (D O (I O (drs+1)))::(A9j (D O (I O (dss+1)))::(A9n 2 (A (if (I O (dss+1))>(I O (drs+1)) then (I O (dss+1)) else (I O (drs+1)))) (Cz [F false,H 0 []] (A (if (I O (dss+1))>(I O (drs+1)) then (I O (dss+1)) else (I O (drs+1)))))::(Ac 12 (A9j (D O (((A (if (I O (dss+1))>(I O (drs+1)) then (I O (dss+1)) else (I O (drs+1)))):Nat):Int))::(A9j (D O 0)::(Ac 30 []))))))))))) (.exit 0) (Jf rs ss (I O (drs+1)) (I O (dss+1)) M os M M))(n5:RQ 66 [H M (pc os)] (L 2 k (pc ts))):RQ 149 [Y pc rs,Y pc ss] (L 2 k (pc ts)):=A9g VG (Ac 4 (A9n 2 k (pc ts)::(Ac 47 []))) (A9m (A9m (A9t (C1.seq (G Dc 400 [.r (D O drs),.r (D O dss)] [0,1,5,6,7,20,21] (T n1 (T n2 (T n3 a0)))) (C1.seq (C1.block hl4) (G Dc 400 [.r (L 2 k (pc ts))] [4] (T n5 a0)))))))
theorem KE(xs:LI){j:Nat}(h:A9r xs xs.length<=j):xs.getD j 0=0:=by
 rcases Cn j xs.length with g | g
 ·exact MX xs xs.length j h g
 ·exact B0 g
theorem rM(rs ss:List Rn)(j:Nat):Q (Hm rs ss (A9r (P rs) rs.length) (A9r (P ss) ss.length) j)=(P rs).getD j 0+(P ss).getD j 0:=by
 have h1:=CO rs j;have h2:=CO ss j;unfold Hm;by_cases g1:j<A9r (P rs) rs.length <;> by_cases g2:j<A9r (P ss) ss.length
 ·rw[if_pos g1,if_pos g2,A9y,h1,h2]
 ·have:=KE (P ss) (j:=j) (by rw[A9z];omega);rw[if_pos g1,if_neg g2,h1,this,BE]
 ·have:=KE (P rs) (j:=j) (by rw[A9z];omega);rw[if_neg g1,if_pos g2,A9y,Wl,h2,this]
 ·have k1:=KE (P ss) (j:=j) (by rw[A9z];omega);have k2:=KE (P rs) (j:=j) (by rw[A9z];omega);rw[if_neg g1,if_neg g2,Wl,k1,k2];rfl
theorem iL{K:Nat}{rs ss:List Rn}(hr:∀ r∈rs,AO K r)(hs:∀ r∈ss,AO K r)(a b j:Nat):AO (K+1) (Hm rs ss a b j):=by
 have h1:=Bk hr j;have h2:=Bk hs j;unfold Hm;split
 ·split
  ·exact BL (h1.fits.add h2.fits)
  ·exact BL ((Mp K).fits.add h2.fits)
 ·split
  ·exact h1.mono (by omega)
  ·exact Mp _
theorem rN{K:Nat}{rs ss:List Rn}(hr:∀ r∈rs,AO K r)(hs:∀ r∈ss,AO K r)(hK:K<1048576)(hN:rs.length<=1048576)(hM:ss.length<=1048576) :
  RQ 149 [Y pc rs,Y pc ss] (L 2 (DB (P rs) (P ss)).length (pk (DB (P rs) (P ss)))):=by
 have hr':∀ r∈rs,AO 1048575 r:=fun r h=>(hr r h).mono (by omega);have hs':∀ r∈ss,AO 1048575 r:=fun r h=>(hs r h).mono (by omega);have d1:=Hf (fun r h=>(hr r h).mono (by omega)) hN;have d2:=Hf (fun r h=>(hs r h).mono (by omega)) hM;have l1:=GX (P rs) rs.length;have l2:=GX (P ss) ss.length;have hl:=Aee l1 l2 hN hM hr' hs';have hg:∀ r∈(Aq (max (A9r (P rs) rs.length) (A9r (P ss) ss.length))).map (Hm rs ss (A9r (P rs) rs.length) (A9r (P ss) ss.length)),AO 1048576 r:=Nc fun i _=>(iL hr hs _ _ i).mono (by omega);have ht:=I_ hg (by simp;omega);have e:A9l (P ((Aq (max (A9r (P rs) rs.length) (A9r (P ss) ss.length))).map (Hm rs ss (A9r (P rs) rs.length) (A9r (P ss) ss.length))))=DB (P rs) (P ss):=by
  rw[<- QA];apply E';intro j;rw[Dl,J7];split
  ·exact rM rs ss j
  ·rename_i h;rw[KE (P rs) (j:=j) (by rw[A9z];omega),KE (P ss) (j:=j) (by rw[A9z];omega)];rfl
 rw[e] at ht;have e1:I O ((((A9r (P rs) rs.length:Nat):Int)-1)+1)=((A9r (P rs) rs.length:Nat):Int):=by rw[Bl (by omega) (by omega)];omega
 have e2:I O ((((A9r (P ss) ss.length:Nat):Int)-1)+1)=((A9r (P ss) ss.length:Nat):Int):=by rw[Bl (by omega) (by omega)];omega
 have e3:(if ((A9r (P ss) ss.length:Nat):Int)>((A9r (P rs) rs.length:Nat):Int) then ((A9r (P ss) ss.length:Nat):Int) else ((A9r (P rs) rs.length:Nat):Int))=((max (A9r (P rs) rs.length) (A9r (P ss) ss.length):Nat):Int):=by split <;> omega
 (first|rw[N,BI] at ht|(unfold Y at ht;rw[N,BI] at ht));exact Awq rs ss _ _ _ _ _ (max (A9r (P rs) rs.length) (A9r (P ss) ss.length)) d1 d2 (by rw[e1,e2,e3];omega) (by rw[e1,e2,e3,R,Oy];exact hl) ht
def B7(fs:List Rn)(r:Rn)(e:Int)(t:Rn)(f:Int):AV := o [Y pc fs,F r.1,H r.2.length (W r.2),D O e,F t.1,H t.2.length (W t.2),D O f]
def M4(fs:List Rn)(r:Rn)(e:Int)(t:Rn)(f:Int):Reg := A9s [Y pc fs,F r.1,H r.2.length (W r.2),D O e,F t.1,H t.2.length (W t.2),D O f]
theorem Aef(r:Rn)(e z:Int)(c1:A9i (e>=0)=true)(c2:A9i (e<=1024)=true)(n1:RQ 102 [Ay r] (D O z)):RQ 64 [j r e] (F (A9i (z<=1024))):=A9x (fn:=Ve) A9o rfl 400 rfl [.b true,.b true,.r (D O z)] (T c1 (T c2 (T n1 a0)))
theorem Aeg(r:Rn)(e:Int)(c1:A9i (e>=0)=true)(c2:A9i (e<=1024)=false):RQ 64 [j r e] (F false):=A9x (fn:=Ve) A9o rfl 400 rfl [.b true,.b false] (T c1 (T c2 a0))
theorem Aeh(r:Rn)(e:Int)(c1:A9i (e>=0)=false):RQ 64 [j r e] (F false):=A9x (fn:=Ve) A9o rfl 400 rfl [.b false,.b false] (T c1 (T ES a0))
theorem rO(rs:List Rn)(b:Bool)(c1:(b)=false)(n1:RQ 147 [H 1 [Y pc rs]] (F b)):RQ 148 [Y pc rs] (Ax [Y pc rs,D O 0]):=A9x (fn:=VF) A9o rfl 400 rfl [.r (F b),.b false] (T n1 (T c1 a0))
theorem rP(rs ss:List Rn)(b:Bool)(c1:(b)=true)(n1:RQ 147 [H 2 [Y pc rs,Y pc ss]] (F b)):RQ 100 [Y pc rs,Y pc ss] (Ax [H 0 [],D O 2]):=A9x (fn:=Sl) A9o rfl 400 rfl [.r (F b),.b true] (T n1 (T c1 a0))
theorem rQ(rs ss us:List Rn)(b:Bool)(e:Int)(c1:(b)=false)(n1:RQ 147 [H 2 [Y pc rs,Y pc ss]] (F b))(n2:RQ 149 [Y pc rs,Y pc ss] (L 2 us.length (pc us)))(n3:RQ 148 [Y pc us] (Ax [Y pc us,D O e])):RQ 100 [Y pc rs,Y pc ss] (Ax [Y pc us,D O e]):=A9x (fn:=Sl) A9o rfl 400 rfl [.r (F b),.b false,.r (L 2 us.length (pc us)),.r (Ax [Y pc us,D O e])] (T n1 (T c1 (T n2 (T n3 a0))))
theorem uW(rs us:List Rn)(e:Int)(n1:RQ 100 [Y pc rs,H 0 []] (Ax [Y pc us,D O e])):RQ 52 [Y pc rs] (F (e==0)):=A9x (fn:=cV) A9o rfl 400 rfl [.r (Ax [Y pc us,D O e])] (T n1 a0)
theorem Aei(fs:List Rn)(r t:Rn)(e f:Int)(d:Int)(b:Bool)(c1:(b)=true)(c2:A9i (d<1)=true)(n1:RQ 52 [Y pc fs] (F b))(n2:RQ 53 [Y pc fs] (D O d)):RQ 18 [B7 fs r e t f] (F false):=A9x (fn:=Of) A9o rfl 400 rfl [.r (F b),.b false,.r (D O d),.b true,.b true,.b true] (T n1 (T (Hx c1) (T n2 (T c2 (T Hw (T Hw a0))))))
theorem Aej(fs:List Rn)(r t:Rn)(e f:Int)(ts:List Rn)(d c s:Int)(b v1 v2:Bool)(c1:(b)=true)(c2:A9i (d<1)=false)(c3:(v1)=true)(c4:(v2)=true)(c5:(c==0)=true)(n1:RQ 52 [Y pc fs] (F b))(n2:RQ 53 [Y pc fs] (D O d))(n3:RQ 64 [j r e] (F v1))(n4:RQ 64 [j t f] (F v2))(n5:RQ 55 [j r e,j t f] (D O c))(n6:RQ 66 [Y pc fs] (L 2 ts.length (pc ts)))(n7:RQ 65 [Y pc ts,j r e] (D O s)):RQ 18 [B7 fs r e t f] (F (s==0)):=A9x (fn:=Of) A9o rfl 400 rfl [.r (F b),.b false,.r (D O d),.b false,.r (F v1),.b false,.r (F v2),.b false,.r (D O c),.b true,.r (L 2 ts.length (pc ts)),.r (D O s)] (T n1 (T (Hx c1) (T n2 (T c2 (T n3 (T (Hx c3) (T n4 (T (Hx c4) (T n5 (T c5 (T n6 (T n7 a0))))))))))))
theorem Aek(fs:List Rn)(r t:Rn)(e f:Int)(d c:Int)(b v1 v2:Bool)(c1:(b)=true)(c2:A9i (d<1)=false)(c3:(v1)=true)(c4:(v2)=true)(c5:(c==0)=false)(c6:(c==1)=true)(n1:RQ 52 [Y pc fs] (F b))(n2:RQ 53 [Y pc fs] (D O d))(n3:RQ 64 [j r e] (F v1))(n4:RQ 64 [j t f] (F v2))(n5:RQ 55 [j r e,j t f] (D O c)):RQ 18 [B7 fs r e t f] (F false):=A9x (fn:=Of) A9o rfl 400 rfl [.r (F b),.b false,.r (D O d),.b false,.r (F v1),.b false,.r (F v2),.b false,.r (D O c),.b false,.b true] (T n1 (T (Hx c1) (T n2 (T c2 (T n3 (T (Hx c3) (T n4 (T (Hx c4) (T n5 (T c5 (T c6 a0)))))))))))
theorem Ael(fs:List Rn)(r t:Rn)(e f:Int)(ls:List (List Rn))(d c x y:Int)(b v1 v2:Bool)(c1:(b)=true)(c2:A9i (d<1)=false)(c3:(v1)=true)(c4:(v2)=true)(c5:(c==0)=false)(c6:(c==1)=false)(n1:RQ 52 [Y pc fs] (F b))(n2:RQ 53 [Y pc fs] (D O d))(n3:RQ 64 [j r e] (F v1))(n4:RQ 64 [j t f] (F v2))(n5:RQ 55 [j r e,j t f] (D O c))(n6:RQ 67 [Y pc fs] (L 1 ls.length (z ls)))(n7:RQ 68 [Y z ls,j r e] (D O x))(n8:RQ 68 [Y z ls,j t f] (D O y)):RQ 18 [B7 fs r e t f] (F ((I O (x-y))==1)):=A9x (fn:=Of) A9o rfl 400 rfl [.r (F b),.b false,.r (D O d),.b false,.r (F v1),.b false,.r (F v2),.b false,.r (D O c),.b false,.b false,.r (L 1 ls.length (z ls)),.r (D O x),.r (D O y)] (T n1 (T (Hx c1) (T n2 (T c2 (T n3 (T (Hx c3) (T n4 (T (Hx c4) (T n5 (T c5 (T c6 (T n6 (T n7 (T n8 a0))))))))))))))
theorem Aem(fs:List Rn)(r t:Rn)(e f:Int)(d:Int)(b v1 v2:Bool)(c1:(b)=true)(c2:A9i (d<1)=false)(c3:(v1)=true)(c4:(v2)=false)(n1:RQ 52 [Y pc fs] (F b))(n2:RQ 53 [Y pc fs] (D O d))(n3:RQ 64 [j r e] (F v1))(n4:RQ 64 [j t f] (F v2)):RQ 18 [B7 fs r e t f] (F false):=A9x (fn:=Of) A9o rfl 400 rfl [.r (F b),.b false,.r (D O d),.b false,.r (F v1),.b false,.r (F v2),.b true] (T n1 (T (Hx c1) (T n2 (T c2 (T n3 (T (Hx c3) (T n4 (T (mE c4) a0))))))))
theorem Aen(fs:List Rn)(r t:Rn)(e f:Int)(d:Int)(b v1:Bool)(c1:(b)=true)(c2:A9i (d<1)=false)(c3:(v1)=false)(n1:RQ 52 [Y pc fs] (F b))(n2:RQ 53 [Y pc fs] (D O d))(n3:RQ 64 [j r e] (F v1)):RQ 18 [B7 fs r e t f] (F false):=A9x (fn:=Of) A9o rfl 400 rfl [.r (F b),.b false,.r (D O d),.b false,.r (F v1),.b true,.b true] (T n1 (T (Hx c1) (T n2 (T c2 (T n3 (T (mE c3) (T Hw a0)))))))
theorem Aeo(fs:List Rn)(r t:Rn)(e f:Int)(b:Bool)(c1:(b)=false)(n1:RQ 52 [Y pc fs] (F b)):RQ 18 [B7 fs r e t f] (F false):=A9x (fn:=Of) A9o rfl 400 rfl [.r (F b),.b true,.b true,.b true,.b true] (T n1 (T (mE c1) (T Hw (T Hw (T Hw a0)))))
theorem Awr(fs:List Rn)(r t:Rn)(e f:Int)(c:Int)(n1:RQ 55 [j r e,j t f] (D O c)):RQ 125 [B7 fs r e t f] (F (c==0)):=A9x (fn:=V4) A9o rfl 400 rfl [.r (D O c)] (T n1 a0)
theorem Aep(fs:List Rn)(r t:Rn)(e f:Int)(q:Rn)(g c_qr:Int)(b:Bool)(c1:(b)=false)(c2:A9i (c_qr<=0)=true)(n1:RQ 125 [B7 fs r e t f] (F b))(n2:RQ 55 [j q g,j r e] (D O c_qr)):RQ 76 [B7 fs r e t f,j q g] (D O 1):=A9x (fn:=Og) A9o rfl 400 rfl [.r (F b),.b false,.r (D O c_qr),.b true] (T n1 (T c1 (T n2 (T c2 a0))))
theorem Aeq(fs:List Rn)(r t:Rn)(e f:Int)(q:Rn)(g c_qr c_qt:Int)(b:Bool)(c1:(b)=false)(c2:A9i (c_qr<=0)=false)(c3:A9i (c_qt>0)=true)(n1:RQ 125 [B7 fs r e t f] (F b))(n2:RQ 55 [j q g,j r e] (D O c_qr))(n3:RQ 55 [j q g,j t f] (D O c_qt)):RQ 76 [B7 fs r e t f,j q g] (D O (-1)):=A9x (fn:=Og) A9o rfl 400 rfl [.r (F b),.b false,.r (D O c_qr),.b false,.r (D O c_qt),.b true] (T n1 (T c1 (T n2 (T c2 (T n3 (T c3 a0))))))
theorem Aer(fs:List Rn)(r t:Rn)(e f:Int)(q:Rn)(g c_qr c_qt s_t:Int)(b:Bool)(c1:(b)=false)(c2:A9i (c_qr<=0)=false)(c3:A9i (c_qt>0)=false)(c4:(c_qt==0)=true)(c5:(s_t==0)=true)(n1:RQ 125 [B7 fs r e t f] (F b))(n2:RQ 55 [j q g,j r e] (D O c_qr))(n3:RQ 55 [j q g,j t f] (D O c_qt))(n4:RQ 65 [Y pc fs,j t f] (D O s_t)):RQ 76 [B7 fs r e t f,j q g] (D O 0):=A9x (fn:=Og) A9o rfl 400 rfl [.r (F b),.b false,.r (D O c_qr),.b false,.r (D O c_qt),.b false,.r (D O s_t),.b true,.b true] (T n1 (T c1 (T n2 (T c2 (T n3 (T c3 (T n4 (T c4 (T c5 a0)))))))))
theorem Aes(fs:List Rn)(r t:Rn)(e f:Int)(q:Rn)(g c_qr c_qt s_t:Int)(b:Bool)(c1:(b)=false)(c2:A9i (c_qr<=0)=false)(c3:A9i (c_qt>0)=false)(c4:(c_qt==0)=true)(c5:(s_t==0)=false)(n1:RQ 125 [B7 fs r e t f] (F b))(n2:RQ 55 [j q g,j r e] (D O c_qr))(n3:RQ 55 [j q g,j t f] (D O c_qt))(n4:RQ 65 [Y pc fs,j t f] (D O s_t)):RQ 76 [B7 fs r e t f,j q g] (D O (-1)):=A9x (fn:=Og) A9o rfl 400 rfl [.r (F b),.b false,.r (D O c_qr),.b false,.r (D O c_qt),.b false,.r (D O s_t),.b true,.b false] (T n1 (T c1 (T n2 (T c2 (T n3 (T c3 (T n4 (T c4 (T c5 a0)))))))))
theorem Aet(fs:List Rn)(r t:Rn)(e f:Int)(q:Rn)(g c_qr c_qt s_t s_q:Int)(b:Bool)(c1:(b)=false)(c2:A9i (c_qr<=0)=false)(c3:A9i (c_qt>0)=false)(c4:(c_qt==0)=false)(c5:(s_q==0)=true)(n1:RQ 125 [B7 fs r e t f] (F b))(n2:RQ 55 [j q g,j r e] (D O c_qr))(n3:RQ 55 [j q g,j t f] (D O c_qt))(n4:RQ 65 [Y pc fs,j t f] (D O s_t))(n5:RQ 65 [Y pc fs,j q g] (D O s_q)):RQ 76 [B7 fs r e t f,j q g] (D O 0):=A9x (fn:=Og) A9o rfl 400 rfl [.r (F b),.b false,.r (D O c_qr),.b false,.r (D O c_qt),.b false,.r (D O s_t),.b false,.r (D O s_q),.b true] (T n1 (T c1 (T n2 (T c2 (T n3 (T c3 (T n4 (T c4 (T n5 (T c5 a0))))))))))
theorem Aeu(fs:List Rn)(r t:Rn)(e f:Int)(q:Rn)(g c_qr c_qt s_t s_q:Int)(b:Bool)(c1:(b)=false)(c2:A9i (c_qr<=0)=false)(c3:A9i (c_qt>0)=false)(c4:(c_qt==0)=false)(c5:(s_q==0)=false)(c6:(s_q==s_t)=true)(n1:RQ 125 [B7 fs r e t f] (F b))(n2:RQ 55 [j q g,j r e] (D O c_qr))(n3:RQ 55 [j q g,j t f] (D O c_qt))(n4:RQ 65 [Y pc fs,j t f] (D O s_t))(n5:RQ 65 [Y pc fs,j q g] (D O s_q)):RQ 76 [B7 fs r e t f,j q g] (D O (-1)):=A9x (fn:=Og) A9o rfl 400 rfl [.r (F b),.b false,.r (D O c_qr),.b false,.r (D O c_qt),.b false,.r (D O s_t),.b false,.r (D O s_q),.b false,.b true] (T n1 (T c1 (T n2 (T c2 (T n3 (T c3 (T n4 (T c4 (T n5 (T c5 (T c6 a0)))))))))))
theorem Aev(fs:List Rn)(r t:Rn)(e f:Int)(q:Rn)(g c_qr c_qt s_t s_q:Int)(b:Bool)(c1:(b)=false)(c2:A9i (c_qr<=0)=false)(c3:A9i (c_qt>0)=false)(c4:(c_qt==0)=false)(c5:(s_q==0)=false)(c6:(s_q==s_t)=false)(n1:RQ 125 [B7 fs r e t f] (F b))(n2:RQ 55 [j q g,j r e] (D O c_qr))(n3:RQ 55 [j q g,j t f] (D O c_qt))(n4:RQ 65 [Y pc fs,j t f] (D O s_t))(n5:RQ 65 [Y pc fs,j q g] (D O s_q)):RQ 76 [B7 fs r e t f,j q g] (D O 1):=A9x (fn:=Og) A9o rfl 400 rfl [.r (F b),.b false,.r (D O c_qr),.b false,.r (D O c_qt),.b false,.r (D O s_t),.b false,.r (D O s_q),.b false,.b false] (T n1 (T c1 (T n2 (T c2 (T n3 (T c3 (T n4 (T c4 (T n5 (T c5 (T c6 a0)))))))))))
theorem Aew(fs:List Rn)(r t:Rn)(e f:Int)(b:Bool)(c1:(b)=true)(n1:RQ 125 [B7 fs r e t f] (F b)):RQ 82 [B7 fs r e t f] (B7 fs r e t f):=A9x (fn:=Vi) A9o rfl 400 rfl [.r (F b),.b true] (T n1 (T c1 a0))
theorem Aex(fs:List Rn)(r t:Rn)(e f:Int)(n m s:Int)(b:Bool)(c1:(b)=false)(c2:A9i (s<=0)=true)(n1:RQ 125 [B7 fs r e t f] (F b))(n2:RQ 133 [j r e,j t f] (j (V n) m))(n3:RQ 76 [B7 fs r e t f,j (V n) m] (D O s)):RQ 82 [B7 fs r e t f] (B7 fs r e (V n) m):=A9x (fn:=Vi) A9o rfl 400 rfl [.r (F b),.b false,.r (j (V n) m),.r (D O s),.b true] (T n1 (T c1 (T n2 (T n3 (T c2 a0)))))
theorem Aey(fs:List Rn)(r t:Rn)(e f:Int)(n m s:Int)(b:Bool)(c1:(b)=false)(c2:A9i (s<=0)=false)(n1:RQ 125 [B7 fs r e t f] (F b))(n2:RQ 133 [j r e,j t f] (j (V n) m))(n3:RQ 76 [B7 fs r e t f,j (V n) m] (D O s)):RQ 82 [B7 fs r e t f] (B7 fs (V n) m t f):=A9x (fn:=Vi) A9o rfl 400 rfl [.r (F b),.b false,.r (j (V n) m),.r (D O s),.b false] (T n1 (T c1 (T n2 (T n3 (T c2 a0)))))
theorem iM(r:Rn)(e n:Int)(n1:RQ 113 [Ay r] (Ag n)):RQ 106 [j r e] (j (V n) e):=A9x (fn:=Vl) A9o rfl 400 rfl [.r (Ag n)] (T n1 a0)
theorem A3o(fs:List Rn)(r t:Rn)(e f:Int)(ts:List Rn)(n m u v:Int)(n1:RQ 66 [Y pc fs] (L 2 ts.length (pc ts)))(n2:RQ 106 [j r e] (j (V n) m))(n3:RQ 106 [j t f] (j (V u) v)):RQ 57 [B7 fs r e t f] (B7 ts (V n) m (V u) v):=A9x (fn:=cY) A9o rfl 400 rfl [.r (L 2 ts.length (pc ts)),.r (j (V n) m),.r (j (V u) v)] (T n1 (T n2 (T n3 a0)))
theorem Aez(fs:List Rn)(r t:Rn)(e f:Int)(gs:List Rn)(n1:RQ 114 [Y pc fs] (Y pc gs)):RQ 75 [B7 fs r e t f] (B7 gs r e t f):=A9x (fn:=Yt) A9o rfl 400 rfl [.r (Y pc gs)] (T n1 a0)
theorem Afa(fs:List Rn)(r t:Rn)(e f:Int)(gs:List Rn)(n1:RQ 114 [Y pc fs] (L 2 gs.length (pc gs))):RQ 75 [B7 fs r e t f] (B7 gs r e t f):=A9x (fn:=Yt) A9o rfl 400 rfl [.r (L 2 gs.length (pc gs))] (T n1 a0)
theorem A3p(rs:List Rn)(ls:List (List Rn))(r t:Rn)(e f x y:Int)(n1:RQ 108 [Y pc rs] (L 1 ls.length (z ls)))(n2:RQ 110 [Y z ls,j r e] (D O x))(n3:RQ 110 [Y z ls,j t f] (D O y)):RQ 63 [Y pc rs,j r e,j t f] (D O (I O (x-y))):=A9x (fn:=cZ) A9o rfl 400 rfl [.r (L 1 ls.length (z ls)),.r (D O x),.r (D O y)] (T n1 (T n2 (T n3 a0)))
theorem A3q(fs:List Rn)(r t:Rn)(e f:Int)(gs:List Rn)(n1:RQ 73 [Y pc fs] (Y pc gs)):RQ 20 [B7 fs r e t f] (B7 gs r e t f):=A9x (fn:=cM) A9o rfl 400 rfl [.r (Y pc gs)] (T n1 a0)
theorem Afb(fs:List Rn)(r t:Rn)(e f:Int)(q:Rn)(g c_qr c_qt c_rt:Int)(c1:(c_rt==0)=false)(c2:A9i (c_qr<=0)=true)(n1:RQ 33 [j q g,j r e] (D O c_qr))(n2:RQ 33 [j q g,j t f] (D O c_qt))(n3:RQ 33 [j r e,j t f] (D O c_rt)):RQ 27 [B7 fs r e t f,j q g] (D O 1):=A9x (fn:=PL) A9o rfl 400 rfl [.r (D O c_qr),.r (D O c_qt),.r (D O c_rt),.b false,.b true] (T n1 (T n2 (T n3 (T c1 (T c2 a0)))))
theorem Afc(fs:List Rn)(r t:Rn)(e f:Int)(q:Rn)(g c_qr c_qt c_rt:Int)(c1:(c_rt==0)=false)(c2:A9i (c_qr<=0)=false)(c3:A9i (c_qt>0)=true)(n1:RQ 33 [j q g,j r e] (D O c_qr))(n2:RQ 33 [j q g,j t f] (D O c_qt))(n3:RQ 33 [j r e,j t f] (D O c_rt)):RQ 27 [B7 fs r e t f,j q g] (D O (-1)):=A9x (fn:=PL) A9o rfl 400 rfl [.r (D O c_qr),.r (D O c_qt),.r (D O c_rt),.b false,.b false,.b true] (T n1 (T n2 (T n3 (T c1 (T c2 (T c3 a0))))))
theorem Afd(fs:List Rn)(r t:Rn)(e f:Int)(q:Rn)(g c_qr c_qt c_rt v w s_t s_q:Int)(c1:(c_rt==0)=false)(c2:A9i (c_qr<=0)=false)(c3:A9i (c_qt>0)=false)(c4:(s_q==0)=true)(n1:RQ 33 [j q g,j r e] (D O c_qr))(n2:RQ 33 [j q g,j t f] (D O c_qt))(n3:RQ 33 [j r e,j t f] (D O c_rt))(n4:RQ 80 [Y pc fs,Ay q,D O g] (Ag v))(n5:RQ 79 [Ag v] (D O s_q))(n6:RQ 80 [Y pc fs,Ay t,D O f] (Ag w))(n7:RQ 79 [Ag w] (D O s_t)):RQ 27 [B7 fs r e t f,j q g] (D O 0):=A9x (fn:=PL) A9o rfl 400 rfl [.r (D O c_qr),.r (D O c_qt),.r (D O c_rt),.b false,.b false,.b false,.r (Ag v),.r (D O s_q),.r (Ag w),.r (D O s_t),.b true] (T n1 (T n2 (T n3 (T c1 (T c2 (T c3 (T n4 (T n5 (T n6 (T n7 (T c4 a0)))))))))))
theorem Afe(fs:List Rn)(r t:Rn)(e f:Int)(q:Rn)(g c_qr c_qt c_rt v w s_t s_q:Int)(c1:(c_rt==0)=false)(c2:A9i (c_qr<=0)=false)(c3:A9i (c_qt>0)=false)(c4:(s_q==0)=false)(c5:(s_t==0)=true)(n1:RQ 33 [j q g,j r e] (D O c_qr))(n2:RQ 33 [j q g,j t f] (D O c_qt))(n3:RQ 33 [j r e,j t f] (D O c_rt))(n4:RQ 80 [Y pc fs,Ay q,D O g] (Ag v))(n5:RQ 79 [Ag v] (D O s_q))(n6:RQ 80 [Y pc fs,Ay t,D O f] (Ag w))(n7:RQ 79 [Ag w] (D O s_t)):RQ 27 [B7 fs r e t f,j q g] (D O 1):=A9x (fn:=PL) A9o rfl 400 rfl [.r (D O c_qr),.r (D O c_qt),.r (D O c_rt),.b false,.b false,.b false,.r (Ag v),.r (D O s_q),.r (Ag w),.r (D O s_t),.b false,.b true] (T n1 (T n2 (T n3 (T c1 (T c2 (T c3 (T n4 (T n5 (T n6 (T n7 (T c4 (T c5 a0))))))))))))
theorem Aff(fs:List Rn)(r t:Rn)(e f:Int)(q:Rn)(g c_qr c_qt c_rt v w s_t s_q:Int)(c1:(c_rt==0)=false)(c2:A9i (c_qr<=0)=false)(c3:A9i (c_qt>0)=false)(c4:(s_q==0)=false)(c5:(s_t==0)=false)(c6:(s_q==s_t)=true)(n1:RQ 33 [j q g,j r e] (D O c_qr))(n2:RQ 33 [j q g,j t f] (D O c_qt))(n3:RQ 33 [j r e,j t f] (D O c_rt))(n4:RQ 80 [Y pc fs,Ay q,D O g] (Ag v))(n5:RQ 79 [Ag v] (D O s_q))(n6:RQ 80 [Y pc fs,Ay t,D O f] (Ag w))(n7:RQ 79 [Ag w] (D O s_t)):RQ 27 [B7 fs r e t f,j q g] (D O (-1)):=A9x (fn:=PL) A9o rfl 400 rfl [.r (D O c_qr),.r (D O c_qt),.r (D O c_rt),.b false,.b false,.b false,.r (Ag v),.r (D O s_q),.r (Ag w),.r (D O s_t),.b false,.b false,.b true] (T n1 (T n2 (T n3 (T c1 (T c2 (T c3 (T n4 (T n5 (T n6 (T n7 (T c4 (T c5 (T c6 a0)))))))))))))
theorem Afg(fs:List Rn)(r t:Rn)(e f:Int)(q:Rn)(g c_qr c_qt c_rt v w s_t s_q:Int)(c1:(c_rt==0)=false)(c2:A9i (c_qr<=0)=false)(c3:A9i (c_qt>0)=false)(c4:(s_q==0)=false)(c5:(s_t==0)=false)(c6:(s_q==s_t)=false)(n1:RQ 33 [j q g,j r e] (D O c_qr))(n2:RQ 33 [j q g,j t f] (D O c_qt))(n3:RQ 33 [j r e,j t f] (D O c_rt))(n4:RQ 80 [Y pc fs,Ay q,D O g] (Ag v))(n5:RQ 79 [Ag v] (D O s_q))(n6:RQ 80 [Y pc fs,Ay t,D O f] (Ag w))(n7:RQ 79 [Ag w] (D O s_t)):RQ 27 [B7 fs r e t f,j q g] (D O 1):=A9x (fn:=PL) A9o rfl 400 rfl [.r (D O c_qr),.r (D O c_qt),.r (D O c_rt),.b false,.b false,.b false,.r (Ag v),.r (D O s_q),.r (Ag w),.r (D O s_t),.b false,.b false,.b false] (T n1 (T n2 (T n3 (T c1 (T c2 (T c3 (T n4 (T n5 (T n6 (T n7 (T c4 (T c5 (T c6 a0)))))))))))))
theorem Afh(fs:List Rn)(r t:Rn)(e f:Int)(c:Int)(c1:(c==0)=true)(n1:RQ 33 [j r e,j t f] (D O c)):RQ 72 [B7 fs r e t f] (B7 fs r e t f):=A9x (fn:=Vf) A9o rfl 400 rfl [.r (D O c),.b true] (T n1 (T c1 a0))
theorem Afi(fs:List Rn)(r t:Rn)(e f:Int)(n m s c:Int)(c1:(c==0)=false)(c2:A9i (s<=0)=true)(n1:RQ 33 [j r e,j t f] (D O c))(n2:RQ 121 [j r e,j t f] (j (V n) m))(n3:RQ 27 [B7 fs r e t f,j (V n) m] (D O s)):RQ 72 [B7 fs r e t f] (B7 fs r e (V n) m):=A9x (fn:=Vf) A9o rfl 400 rfl [.r (D O c),.b false,.r (j (V n) m),.r (D O s),.b true] (T n1 (T c1 (T n2 (T n3 (T c2 a0)))))
theorem Afj(fs:List Rn)(r t:Rn)(e f:Int)(n m s c:Int)(c1:(c==0)=false)(c2:A9i (s<=0)=false)(n1:RQ 33 [j r e,j t f] (D O c))(n2:RQ 121 [j r e,j t f] (j (V n) m))(n3:RQ 27 [B7 fs r e t f,j (V n) m] (D O s)):RQ 72 [B7 fs r e t f] (B7 fs (V n) m t f):=A9x (fn:=Vf) A9o rfl 400 rfl [.r (D O c),.b false,.r (j (V n) m),.r (D O s),.b false] (T n1 (T c1 (T n2 (T n3 (T c2 a0)))))
def IM(o:Bool)(rs:List Rn)(i:Int):Al:=(A9j (Y pc rs)::(Ac 1 (A9j (F o)::(A9j (D O i)::(Ac 24 [])))))
theorem A3r(o:Bool)(rs:List Rn)(i:Int)(z:Int)(c1:A9i (i<(rs.length:Int))=true)(c2:A9i (z>100)=true)(n1:0<=i/\i<(rs.length:Int))(n2:RQ 51 [Ay (rs.getD (A i) z0)] (D O z)):Ar Oe (IM o rs i) .ret (IM false rs i):=(G A9o 400 [.b true,.v (Ay (rs.getD (A i) z0)),.r (D O z),.b true,.b true] [0,2,3] (T c1 (T n1 (T (BN n1) (T n2 (T c2 (T Hw a0)))))))
theorem A3s(o:Bool)(rs:List Rn)(i:Int)(z:Int)(c1:A9i (i<(rs.length:Int))=true)(c2:A9i (z>100)=false)(c3:(A9i ((((rs.getD (A i) z0).2.length:Nat):Int)>5))=true)(n1:0<=i/\i<(rs.length:Int))(n2:RQ 51 [Ay (rs.getD (A i) z0)] (D O z)):Ar Oe (IM o rs i) .ret (IM false rs i):=(G A9o 400 [.b true,.v (Ay (rs.getD (A i) z0)),.r (D O z),.b false,.v (H ((rs.getD (A i) z0).2.length) (W (rs.getD (A i) z0).2)),.b true] [0,2,3] (T c1 (T n1 (T (BN n1) (T n2 (T c2 (T n1 (T (Y9 n1) (T c3 a0)))))))))
theorem A3t(o:Bool)(rs:List Rn)(i:Int)(z:Int)(c1:A9i (i<(rs.length:Int))=true)(c2:A9i (z>100)=false)(c3:(A9i ((((rs.getD (A i) z0).2.length:Nat):Int)>5))=false)(n1:0<=i/\i<(rs.length:Int))(n2:RQ 51 [Ay (rs.getD (A i) z0)] (D O z)):Ar Oe (IM o rs i) .norm (IM o rs (I O (i+1))):=(G A9o 400 [.b true,.v (Ay (rs.getD (A i) z0)),.r (D O z),.b false,.v (H ((rs.getD (A i) z0).2.length) (W (rs.getD (A i) z0).2)),.b false] [0,2,3] (T c1 (T n1 (T (BN n1) (T n2 (T c2 (T n1 (T (Y9 n1) (T c3 a0)))))))))
theorem A3u(o:Bool)(rs:List Rn)(i:Int)(c1:A9i (i<(rs.length:Int))=false):Ar Oe (IM o rs i) (.exit 0) (IM o rs i):=(G A9o 400 [.b false] [0,2,3] (T c1 a0))
theorem iN(rs:List Rn)(c1:A9i ((rs.length:Int)>9)=true):RQ 13 [Y pc rs] (F false):=A9g U_ (Ac 2 (A9j (F false)::(Ac 25 []))) (A9m (A9t (A8 (G A9o 400 [.b true] [2] (T c1 a0)) (by nofun))))
theorem iO(rs:List Rn)(i:Int)(c1:A9i ((rs.length:Int)>9)=false)(hl1:Ar (.loop Oe) (IM false rs 0) .ret (IM false rs i)):RQ 13 [Y pc rs] (F false):=A9g U_ (A9j (Y pc rs)::(Ac 1 (A9j (F false)::(A9j (D O i)::(Ac 24 []))))) (A9m (A9t (C1.seq (G A9o 400 [.b false] [0,2,3] (T c1 a0)) (A8 (Ct hl1) (by nofun)))))
theorem iP(rs:List Rn)(i:Int)(c1:A9i ((rs.length:Int)>9)=false)(hl1:Ar (.loop Oe) (IM false rs 0) (.exit 0) (IM false rs i)):RQ 13 [Y pc rs] (F true):=A9g U_ (Ac 2 (A9j (F true)::(Ac 25 []))) (A9m (A9t (C1.seq (G A9o 400 [.b false] [0,2,3] (T c1 a0)) (C1.seq (C1.block hl1) (G A9o 400 [] [2] a0)))))
def TXA:Cw:=TZB
theorem rR:Ch AZ TXA:=qU
def Qb(r:Rn)(e:Int):Bool:=decide (e>=0)&&decide (e<=1024)&&decide (DD (Q r).natAbs<=1024)
theorem iQ{r:Rn}{e:Int}(h:Qb r e=true):∃ a:Nat,e=(a:Nat)/\a<=1024/\DD (Q r).natAbs<=1024:=by
 unfold Qb at h;simp only[Af,decide_eq_true_eq] at h;exact⟨e.toNat,by omega,by omega,h.2⟩
theorem RN{r:Rn}{e:Int}(hr:AO 100 r):RQ 64 [j r e] (F (Qb r e)):=by
 have hb:=Ni (neg:=r.1) hr.1 (by have:=hr.2;omega);unfold Qb;by_cases c1:e>=0
 ·by_cases c2:e<=1024
  ·have k:=Aef r e _ (decide_eq_true c1) (decide_eq_true c2) hb;have ez:decide (((DD (Q r).natAbs:Nat):Int)<=1024)=decide (DD (Q r).natAbs<=1024):=decide_eq_decide.2 (by omega);rw[decide_eq_true c1,decide_eq_true c2];show Bg _ _ _ (F (A9i (DD (Q r).natAbs<=1024)));rw[<- ez];exact k
  ·rw[decide_eq_true c1,decide_eq_false c2];exact Aeg r e (decide_eq_true c1) (decide_eq_false c2)
 ·rw[decide_eq_false c1];exact Aeh r e (decide_eq_false c1)
theorem aP(p:LI):D_ (A9l p)=D_ p:=by
 unfold D_;rw[GY]
theorem rS:D_ []=false:=by decide
theorem OK{rs:List Rn}{K:Nat}(hg:∀ r∈rs,AO K r)(hK:K<=1000)(hN:rs.length<=1000):RQ 52 [Y pc rs] (F (!D_ (P rs))):=by
 have h1:=TU (ps:=[rs,[]]) (fun p hp=>by
  rcases D4.1 hp with rfl | hp
  ·exact⟨fun r h=>(hg r h).mono (by omega),by omega⟩
  ·rcases D4.1 hp with rfl | hp
   ·exact⟨fun r h=>(by cases h),by decide⟩
   ·cases hp) (by simp)
 have e1:([rs,[]].any fun p=>D_ (P p))=D_ (P rs):=by
  have:P ([]:List Rn)=[]:=rfl;simp[this,rS]
 rw[e1] at h1;cases c:D_ (P rs) with
 | true =>
  rw[c] at h1;exact uW rs [] 2 (rP rs [] true rfl h1)
 | false =>
  rw[c] at h1;have h2:=rN (rs:=rs) (ss:=[]) hg (fun r h=>by cases h) (by omega) (by omega) (by decide);have ep:DB (P rs) (P ([]:List Rn))=A9l (P rs):=by
   rw[<- QA];apply E';intro i;rw[Dl];have:(P ([]:List Rn)).getD i 0=0:=by simp[P]
   omega
  rw[ep] at h2;have hl:=Bp (P rs);rw[A9z] at hl;have hgt:∀ r∈(A9l (P rs)).map V,AO K r:=Mr (Hc (CP hg));have h3:=TU (ps:=[(A9l (P rs)).map V]) (fun p hp=>by
   rcases D4.1 hp with rfl | hp
   ·exact⟨fun r h=>(hgt r h).mono (by omega),by rw[N];omega⟩
   ·cases hp) (by simp)
  have e3:([(A9l (P rs)).map V].any fun p=>D_ (P p))=false:=by
   rw[List.any_cons,List.any_nil,Bool.or_false,AJ,aP];exact c
  rw[e3] at h3;have h4:=rO _ false rfl h3;exact uW rs _ _ (rQ rs [] _ false 0 rfl h1 (E3 h2) h4)
theorem OL{l:List (LI)}(hl:l.length<=100)(x:Int)(e:Nat)(y:Int)(f:Nat):I O ((Ce l x e l.length).1-(Ce l y f l.length).1)=(Ce l x e l.length).1-(Ce l y f l.length).1:=by
 have b1:=KC l x e l.length;have b2:=KC l y f l.length;exact Bl (by omega) (by omega)
def RO(p:LI)(x:Int)(a:Nat)(y:Int)(b:Nat):Int:=(Ce (BW p) x a (BW p).length).1-(Ce (BW p) y b (BW p).length).1
def Px(rs:List Rn)(r:Rn)(e:Int)(t:Rn)(f:Int):Bool :=
 !D_ (P rs)&&decide (2<=(A9l (P rs)).length)&&Qb r e&&Qb t f &&
  (if Bm (Q r) e.toNat (Q t) f.toNat=0 then decide (BS (hv (A9l (P rs)) (Q r) (2^e.toNat))=0)
  else decide (Bm (Q r) e.toNat (Q t) f.toNat = -1/\RO (P rs) (Q r) e.toNat (Q t) f.toNat=1))
section
variable {rs:List Rn} {r t:Rn} (hg:∀ r∈rs,AO 5 r) (hn:rs.length<=9) (hr:AO 100 r) (ht:AO 100 t) (e f:Int)
include hg hn hr ht
theorem WS:RQ 18 [o [Y pc rs,F r.1,H r.2.length (W r.2),D O e,F t.1,H t.2.length (W t.2),D O f]] (F (Px rs r e t f)):=by
 have h1:=OK hg (by omega) (by omega);have h2:=Hf (fun r h=>(hg r h).mono (by omega)) (show rs.length<=1048576 by omega);have h3:=RN (e:=e) hr;have h4:=RN (e:=f) ht;have htl:=F9 (P rs);rw[A9z] at htl;unfold Px;cases c1:D_ (P rs) with
 | true =>
  rw[c1] at h1;exact Aeo rs r t e f false rfl h1
 | false =>
  rw[c1] at h1;by_cases c2:2<=(A9l (P rs)).length
  ·have d2:decide (((A9r (P rs) rs.length:Nat):Int)-1<1)=false:=by rw[decide_eq_false_iff_not];omega
   cases c3:Qb r e with
   | false =>
    rw[c3] at h3;rw[decide_eq_true c2];exact Aen rs r t e f _ true false rfl d2 rfl h1 h2 h3
   | true =>
    rw[c3] at h3;cases c4:Qb t f with
    | false =>
     rw[c4] at h4;rw[decide_eq_true c2];exact Aem rs r t e f _ true true false rfl d2 rfl rfl h1 h2 h3 h4
    | true =>
     rw[c4] at h4;obtain⟨a,rfl,ha,_⟩:=iQ c3;obtain⟨b,rfl,hb,_⟩:=iQ c4;rw[R,R,decide_eq_true c2];have h5:=Ir (hr.mono (show 100<=200 by omega)) (ht.mono (show 100<=200 by omega)) (a:=a) (b:=b) (by omega) (by omega);by_cases c5:Bm (Q r) a (Q t) b=0
     ·rw[c5] at h5;rw[if_pos c5];have h6:=I_ (fun r h=>(hg r h).mono (by omega)) (show rs.length<=1048576 by omega);have hk:∀ r∈(A9l (P rs)).map V,AO 5 r:=Mr (Hc (CP hg));have hl:=Bp (P rs);rw[A9z] at hl;have h7:=Nl (rs:=(A9l (P rs)).map V) hk hr a (by
       rw[N];have:((A9l (P rs)).length+1)*(100+(a / 32+1)+1)<=10*230:=B2 (by omega) (by omega);omega) (by omega)
      rw[AJ] at h7;have k:=Aej rs r t (a:Nat) (b:Nat) _ _ 0 _ true true true rfl d2 rfl rfl rfl h1 h2 h3 h4 h5 (E3 h6) h7;refine k
     ·rw[if_neg c5];have hbd:=I9 (Q r*2^b) (Q t*2^a);by_cases c6:Bm (Q r) a (Q t) b=1
      ·rw[c6] at h5;rw[decide_eq_false (show ¬ (Bm (Q r) a (Q t) b = -1/\_) by rw[c6];exact fun g=>absurd g.1 (by decide))];exact Aek rs r t (a:Nat) (b:Nat) _ 1 true true true rfl d2 rfl rfl rfl rfl h1 h2 h3 h4 h5
      ·have c7:Bm (Q r) a (Q t) b = -1:=by
        have h0:Bm (Q r) a (Q t) b=CR (Q r*2^b) (Q t*2^a):=rfl;omega
       rw[c7] at h5;have hch:=OH hg hn;have hnice:=Kx hg hn;have hlen:=Ip hg hn;have x1:=G0 hnice hr a (by omega) (by omega);have x2:=G0 hnice ht b (by omega) (by omega);have k:=Ael rs r t (a:Nat) (b:Nat) _ _ (-1) _ _ true true true rfl d2 rfl rfl rfl rfl h1 h2 h3 h4 h5 hch x1 x2;rw[OL (by omega)] at k;have ee:decide (Bm (Q r) a (Q t) b = -1/\RO (P rs) (Q r) a (Q t) b=1)=(RO (P rs) (Q r) a (Q t) b==1):=by
        rw[c7];cases hq:(RO (P rs) (Q r) a (Q t) b==1) with
        | true=>rw[decide_eq_true_eq];exact⟨rfl,by simpa using hq⟩
        | false=>rw[decide_eq_false_iff_not];exact fun g=>by rw[beq_eq_false_iff_ne] at hq;exact hq g.2
       rw[ee];exact k
  ·have d2:decide (((A9r (P rs) rs.length:Nat):Int)-1<1)=true:=by rw[decide_eq_true_eq];omega
   rw[decide_eq_false c2];exact Aei rs r t e f _ true rfl d2 h1 h2
end
def Qc(p:LI):Prop:=u 500000 p/\p.length<=9
theorem Zd{p:LI}(hl:p.length<=9){a:Nat}(ha:a<=4096):500000+2+(p.length+1)*(100+(a / 32+1)+1)<=1048576:=by
 have:(p.length+1)*(100+(a / 32+1)+1)<=10*230:=B2 (by omega) (by omega);omega
def Gd(p:LI)(x:Int)(a:Nat):Int:=BS (hv p x (2^a))
theorem RP{p:LI}(hp:Qc p){r:Rn}(hr:AO 100 r){a:Nat}(ha:a<=4096):RQ 65 [H (p.map V).length (pc (p.map V)),j r (a:Nat)] (D O (Gd p (Q r) a)):=by
 have h:=Nl (rs:=p.map V) (AR hp.1) hr a (by rw[N];exact Zd hp.2 ha) (by omega);rw[AJ] at h;exact h
theorem TW{rs:List Rn}(hg:∀ r∈rs,AO 500000 r)(hl:rs.length<=9){r:Rn}(hr:AO 100 r){a:Nat}(ha:a<=4096) :
  RQ 80 [Y pc rs,o [F r.1,H r.2.length (W r.2)],D O (a:Nat)] (Ag (hv (A9l (P rs)) (Q r) (2^a))) /\
  RQ 79 [Ag (hv (A9l (P rs)) (Q r) (2^a))] (D O (Gd (A9l (P rs)) (Q r) a)):=by
 have hz:=Zd (p:=P rs) (by rw[A9z];exact hl) ha;rw[A9z] at hz;have h:=TK hg hr a hz (by omega);have hf:=W2 (K:=500000) hr.fits a (ts:=A9l (P rs)) (Hc (CP hg));have ht:=Bp (P rs);rw[A9z] at ht;have hlen:(A9l (P rs)).length*(100+(a / 32+1)+1)<=9*230:=B2 (by omega) (by omega);exact⟨h,Y5 (by have:=hf.len;omega)⟩
section
variable {rs:List Rn} {r t:Rn} (hg:∀ r∈rs,AO 5 r) (hn:rs.length<=9) (hr:AO 100 r) (ht:AO 100 t) (e f:Int)
include hg hn hr ht
end
def TXB:Cw:=TXA
theorem rT:Ch AZ TXB:=rR
theorem SY(c x q:Int):∀ p:LI,hv p (c*x) (c*q)=c^(p.length-1)*hv p x q
 | []=>by simp[hv]
 | [a]=>by simp[hv]
 | a::b::p=>by
  have ih:=SY c x q (b::p);have e:∀ y d,hv (a::b::p) y d=a*d^(p.length+1)+y*hv (b::p) y d:=fun _ _=>rfl;have e1:(b::p).length-1=p.length:=rfl;have e2:(a::b::p).length-1=p.length+1:=rfl;rw[e1] at ih;rw[e,e,ih,e2,Q',A2 c p.length];generalize hv (b::p) x q=H;generalize c^p.length=C;generalize q^(p.length+1)=Q;grind
theorem TX{c:Int}(hc:0<c)(v:Int):BS (c*v)=BS v:=by
 unfold BS;rcases IH v 0 with h | h | h
 ·have:=IE hc h;rw[if_pos this,if_pos h]
 ·subst h;rw[AI]
 ·have:=Be hc h;rw[if_neg (by omega),if_pos this,if_neg (by omega),if_pos h]
theorem SZ{p:LI}{x y:Int}{a b:Nat}(h:x*2^b=y*2^a):Gd p x a=Gd p y b:=by
 unfold Gd;have pa:(0:Int)<2^a:=EQ (by decide);have pb:(0:Int)<2^b:=EQ (by decide);have qa:(0:Int)<(2^a)^(p.length-1):=EQ pa;have qb:(0:Int)<(2^b)^(p.length-1):=EQ pb;rw[<- TX qb (hv p x (2^a)),<- SY,<- TX qa (hv p y (2^b)),<- SY];rw[AA (2^b) x,h,AA (2^b) (2^a),AA (2^a) y]
def Fl(p:LI)(lo:Int)(a:Nat)(hi:Int)(b:Nat)(x:Int)(c:Nat):Int :=
 if Bm x c lo a<=0 then 1 else if Bm x c hi b>0 then -1 else if Gd p x c=0 then 0 else if Gd p x c=Gd p hi b then -1 else 1
section
variable {p:LI} (hp:Qc p) {r t q:Rn} (hr:AO 100 r) (ht:AO 100 t) (hq:AO 100 q) {a b c:Nat} (ha:a<=4096) (hb:b<=4096) (hc:c<=4096)
include hr ht ha hb
theorem Ny:RQ 125 [o [H (p.map V).length (pc (p.map V)),F r.1,H r.2.length (W r.2),D O (a:Nat),F t.1,H t.2.length (W t.2),D O (b:Nat)]] (F (Bm (Q r) a (Q t) b==0)) :=
 Awr _ r t _ _ _ (Ir (hr.mono (by omega)) (ht.mono (by omega)) ha hb)
include hp hq hc
theorem Afk(hne:Bm (Q r) a (Q t) b ≠ 0):RQ 76 [o [H (p.map V).length (pc (p.map V)),F r.1,H r.2.length (W r.2),D O (a:Nat),F t.1,H t.2.length (W t.2),D O (b:Nat)],j q (c:Nat)]
  (D O (Fl p (Q r) a (Q t) b (Q q) c)):=by
 have h1:=Ny (p:=p) hr ht ha hb;rw[beq_eq_false_iff_ne.2 hne] at h1;have h2:=Ir (hq.mono (show 100<=200 by omega)) (hr.mono (show 100<=200 by omega)) hc ha;have h3:=Ir (hq.mono (show 100<=200 by omega)) (ht.mono (show 100<=200 by omega)) hc hb;have s1:=RP hp ht hb;have s2:=RP hp hq hc;unfold Fl;by_cases c1:Bm (Q q) c (Q r) a<=0
 ·rw[if_pos c1];exact Aep _ r t _ _ q _ _ false rfl (decide_eq_true c1) h1 h2
 rw[if_neg c1];by_cases c2:Bm (Q q) c (Q t) b>0
 ·rw[if_pos c2];exact Aeq _ r t _ _ q _ _ _ false rfl (decide_eq_false c1) (decide_eq_true c2) h1 h2 h3
 rw[if_neg c2];by_cases c3:Bm (Q q) c (Q t) b=0
 ·have hs:Gd p (Q q) c=Gd p (Q t) b:=by
   apply SZ;unfold Bm CR at c3;split at c3
   ·exact absurd c3 (by decide)
   ·split at c3
    ·exact absurd c3 (by decide)
    ·omega
  rw[hs];by_cases c4:Gd p (Q t) b=0
  ·rw[if_pos c4];exact Aer _ r t _ _ q _ _ _ _ false rfl (decide_eq_false c1) (decide_eq_false c2) (by rw[beq_iff_eq];exact c3) (by rw[beq_iff_eq];exact c4) h1 h2 h3 s1
  ·rw[if_neg c4,if_pos rfl];exact Aes _ r t _ _ q _ _ _ _ false rfl (decide_eq_false c1) (decide_eq_false c2) (by rw[beq_iff_eq];exact c3) (by rw[beq_eq_false_iff_ne];exact c4) h1 h2 h3 s1
 ·have d3:(Bm (Q q) c (Q t) b==0)=false:=beq_eq_false_iff_ne.2 c3;by_cases c4:Gd p (Q q) c=0
  ·rw[if_pos c4];exact Aet _ r t _ _ q _ _ _ _ _ false rfl (decide_eq_false c1) (decide_eq_false c2) d3 (by rw[beq_iff_eq];exact c4) h1 h2 h3 s1 s2
  rw[if_neg c4];by_cases c5:Gd p (Q q) c=Gd p (Q t) b
  ·rw[if_pos c5];exact Aeu _ r t _ _ q _ _ _ _ _ false rfl (decide_eq_false c1) (decide_eq_false c2) d3 (by rw[beq_eq_false_iff_ne];exact c4) (by rw[beq_iff_eq];exact c5) h1 h2 h3 s1 s2
  ·rw[if_neg c5];exact Aev _ r t _ _ q _ _ _ _ _ false rfl (decide_eq_false c1) (decide_eq_false c2) d3 (by rw[beq_eq_false_iff_ne];exact c4) (by rw[beq_eq_false_iff_ne];exact c5) h1 h2 h3 s1 s2
theorem S'(hL:BZ p)(hne:Bm (Q r) a (Q t) b ≠ 0):RQ 27 [o [H (p.map V).length (pc (p.map V)),F r.1,H r.2.length (W r.2),D O (a:Nat),F t.1,H t.2.length (W t.2),D O (b:Nat)],j q (c:Nat)]
  (D O (Fl p (Q r) a (Q t) b (Q q) c)):=by
 have h1:=GD (hr.mono (show 100<=200 by omega)) (ht.mono (show 100<=200 by omega)) ha hb;have d1:(Bm (Q r) a (Q t) b==0)=false:=beq_eq_false_iff_ne.2 hne;have h2:=GD (hq.mono (show 100<=200 by omega)) (hr.mono (show 100<=200 by omega)) hc ha;have h3:=GD (hq.mono (show 100<=200 by omega)) (ht.mono (show 100<=200 by omega)) hc hb;obtain⟨s1,s2⟩:=TW (rs:=p.map V) (AR hp.1) (by rw[N];exact hp.2) ht hb;obtain⟨s3,s4⟩:=TW (rs:=p.map V) (AR hp.1) (by rw[N];exact hp.2) hq hc;rw[AJ,hL] at s1 s2 s3 s4;unfold Fl;by_cases c1:Bm (Q q) c (Q r) a<=0
 ·rw[if_pos c1];exact Afb _ r t _ _ q _ _ _ _ d1 (decide_eq_true c1) h2 h3 h1
 rw[if_neg c1];by_cases c2:Bm (Q q) c (Q t) b>0
 ·rw[if_pos c2];exact Afc _ r t _ _ q _ _ _ _ d1 (decide_eq_false c1) (decide_eq_true c2) h2 h3 h1
 rw[if_neg c2];by_cases c4:Gd p (Q q) c=0
 ·rw[if_pos c4];exact Afd _ r t _ _ q _ _ _ _ _ _ _ _ d1 (decide_eq_false c1) (decide_eq_false c2) (by rw[beq_iff_eq];exact c4) h2 h3 h1 s3 s4 s1 s2
 rw[if_neg c4];have d4:(Gd p (Q q) c==0)=false:=beq_eq_false_iff_ne.2 c4;by_cases c6:Gd p (Q t) b=0
 ·rw[if_neg (by omega)];exact Afe _ r t _ _ q _ _ _ _ _ _ _ _ d1 (decide_eq_false c1) (decide_eq_false c2) d4 (by rw[beq_iff_eq];exact c6) h2 h3 h1 s3 s4 s1 s2
 by_cases c5:Gd p (Q q) c=Gd p (Q t) b
 ·rw[if_pos c5];exact Aff _ r t _ _ q _ _ _ _ _ _ _ _ d1 (decide_eq_false c1) (decide_eq_false c2) d4 (by rw[beq_eq_false_iff_ne];exact c6) (by rw[beq_iff_eq];exact c5) h2 h3 h1 s3 s4 s1 s2
 ·rw[if_neg c5];exact Afg _ r t _ _ q _ _ _ _ _ _ _ _ d1 (decide_eq_false c1) (decide_eq_false c2) d4 (by rw[beq_eq_false_iff_ne];exact c6) (by rw[beq_eq_false_iff_ne];exact c5) h2 h3 h1 s3 s4 s1 s2
end
structure Iv where
 r:Rn
 a:Nat
 t:Rn
 b:Nat
def Iv.mn(x:Iv):Int:=Qa (Q x.r) x.a (Q x.t) x.b
def Iv.me(x:Iv):Nat:=ND (Q x.r) x.a (Q x.t) x.b
def stp(p:LI)(x:Iv):Iv :=
 if Bm (Q x.r) x.a (Q x.t) x.b=0 then x
 else if Fl p (Q x.r) x.a (Q x.t) x.b x.mn x.me<=0 then ⟨x.r,x.a,V x.mn,x.me⟩ else ⟨V x.mn,x.me,x.t,x.b⟩
def Iv.av(p:LI)(x:Iv):AV := o [H (p.map V).length (pc (p.map V)),F x.r.1,H x.r.2.length (W x.r.2),D O (x.a:Nat),F x.t.1,H x.t.2.length (W x.t.2),D O (x.b:Nat)]
structure IvOk (C m:Nat) (x:Iv):Prop where
 gr:AO 100 x.r
 gt:AO 100 x.t
 a:x.a<=m
 b:x.b<=m
 vr:(Q x.r).natAbs<=2^C*2^x.a
 vt:(Q x.t).natAbs<=2^C*2^x.b
theorem Py{x a y b}:ND x a y b<=max a b+1:=by unfold ND;omega
theorem U8{x:Int}{a:Nat}{y:Int}{b C:Nat}(hx:x.natAbs<=2^C*2^a)(hy:y.natAbs<=2^C*2^b):(Qa x a y b).natAbs<=2^C*2^ND x a y b:=by
 have hz:=OJ (max a b+1) (IA x a y b);have hd:=KD (max a b+1) (IA x a y b);have h1:(IA x a y b).natAbs<=2^C*2^(max a b+1):=by
  unfold IA;have e1:(x*2^(max a b-a)).natAbs<=2^C*2^max a b:=by
   rw[BT,NN];have:2^C*2^max a b=2^C*2^a*2^(max a b-a):=by rw[EL,<- CN 2 a];congr 2;omega
   rw[this];exact B2 hx (Ap _)
  have e2:(y*2^(max a b-b)).natAbs<=2^C*2^max a b:=by
   rw[BT,NN];have:2^C*2^max a b=2^C*2^b*2^(max a b-b):=by rw[EL,<- CN 2 b];congr 2;omega
   rw[this];exact B2 hy (Ap _)
  have e3:2^C*2^(max a b+1)=2^C*2^max a b+2^C*2^max a b:=by rw[FL,<- EL];omega
  omega
 unfold Qa ND;generalize IA x a y b=S at *
 generalize DO S (max a b+1)=z at *
 obtain⟨N,rfl⟩:=hd;have pz:(0:Int)<2^z:=EQ (by decide);rw[BX _ (by omega)];rw[BT,NN] at h1;have e4:2^C*2^(max a b+1)=2^z*(2^C*2^(max a b+1-z)):=by
  rw[Nat.mul_left_comm,<- CN 2 z];congr 2;omega
 rw[e4] at h1;exact Nat.le_of_mul_le_mul_left h1 (C9 (by decide))
theorem Gl{n:Int}{k:Nat}(h:n.natAbs<=2^k){K:Nat}(hk:k<32*K):Br K n:=by
 unfold Br;have:(4294967296:Nat)^K=2^(32*K):=by rw[A8z]
 rw[this];exact Dz h (QH (by decide) hk)
theorem A3v{p:LI}{C m:Nat}{x:Iv}(h:IvOk C m x)(hC:C+m+1<3000):IvOk C (m+1) (stp p x):=by
 obtain⟨gr,gt,ha,hb,vr,vt⟩:=h;have e1:=U8 vr vt;have e2:x.me<=max x.a x.b+1:=Py;have e3:x.mn.natAbs<=2^C*2^x.me:=e1;have hf:AO 100 (V x.mn):=BL (Gl (k:=C+x.me) (by rw[CN];exact e3) (by omega));unfold stp;split
 ·exact⟨gr,gt,by omega,by omega,vr,vt⟩
 ·split
  ·exact⟨gr,hf,by show x.a<=_;omega,by show x.me<=_;omega,vr,by show (Q (V x.mn)).natAbs<=_;rw[A9y];exact e3⟩
  ·exact⟨hf,gt,by show x.me<=_;omega,by show x.b<=_;omega,by show (Q (V x.mn)).natAbs<=_;rw[A9y];exact e3,vt⟩
section
variable {p:LI} (hp:Qc p) {C m:Nat} {x:Iv} (h:IvOk C m x) (hC:C+m+1<3000)
include hp h hC
theorem Ze:RQ 82 [x.av p] ((stp p x).av p):=by
 obtain⟨gr,gt,ha,hb,vr,vt⟩:=h;have h1:=Ny (p:=p) gr gt (a:=x.a) (b:=x.b) (by omega) (by omega);unfold stp;by_cases c1:Bm (Q x.r) x.a (Q x.t) x.b=0
 ·rw[if_pos c1];rw[beq_iff_eq.2 c1] at h1;exact Aew _ x.r x.t _ _ true rfl h1
 ·rw[if_neg c1];rw[beq_eq_false_iff_ne.2 c1] at h1;have e3:x.mn.natAbs<=2^C*2^x.me:=U8 vr vt;have e2:x.me<=max x.a x.b+1:=Py;have hf:AO 100 (V x.mn):=BL (Gl (k:=C+x.me) (by rw[CN];exact e3) (by omega));have h2:=RM (gr.mono (show 100<=200 by omega)) (gt.mono (show 100<=200 by omega)) (a:=x.a) (b:=x.b) (by omega) (by omega);have h3:=Afk hp gr gt hf (a:=x.a) (b:=x.b) (c:=x.me) (by omega) (by omega) (by omega) c1;rw[A9y] at h3;by_cases c2:Fl p (Q x.r) x.a (Q x.t) x.b x.mn x.me<=0
  ·rw[if_pos c2];exact Aex _ x.r x.t _ _ _ _ _ false rfl (decide_eq_true c2) h1 h2 h3
  ·rw[if_neg c2];exact Aey _ x.r x.t _ _ _ _ _ false rfl (decide_eq_false c2) h1 h2 h3
theorem WT(hL:BZ p):RQ 72 [x.av p] ((stp p x).av p):=by
 obtain⟨gr,gt,ha,hb,vr,vt⟩:=h;have h1:=GD (gr.mono (show 100<=200 by omega)) (gt.mono (show 100<=200 by omega)) (a:=x.a) (b:=x.b) (by omega) (by omega);unfold stp;by_cases c1:Bm (Q x.r) x.a (Q x.t) x.b=0
 ·rw[if_pos c1];exact Afh _ x.r x.t _ _ _ (by rw[beq_iff_eq];exact c1) h1
 ·rw[if_neg c1];have d1:(Bm (Q x.r) x.a (Q x.t) x.b==0)=false:=beq_eq_false_iff_ne.2 c1;have e3:x.mn.natAbs<=2^C*2^x.me:=U8 vr vt;have e2:x.me<=max x.a x.b+1:=Py;have hf:AO 100 (V x.mn):=BL (Gl (k:=C+x.me) (by rw[CN];exact e3) (by omega));have h2:=rL (gr.mono (show 100<=200 by omega)) (gt.mono (show 100<=200 by omega)) (a:=x.a) (b:=x.b) (by omega) (by omega);have h3:=S' hp gr gt hf (a:=x.a) (b:=x.b) (c:=x.me) (by omega) (by omega) (by omega) hL c1;rw[A9y] at h3;by_cases c2:Fl p (Q x.r) x.a (Q x.t) x.b x.mn x.me<=0
  ·rw[if_pos c2];exact Afi _ x.r x.t _ _ _ _ _ _ d1 (decide_eq_true c2) h1 h2 h3
  ·rw[if_neg c2];exact Afj _ x.r x.t _ _ _ _ _ _ d1 (decide_eq_false c2) h1 h2 h3
end
def TXC:Cw:=TXB
theorem C4:Ch AZ TXC:=rT
end Go.Proofs.YtajompaehjkgkaaGreat
namespace Go.Ai
open Int renaming toNat->A
open List renaming append_assoc->N6,cons_append->Ii,drop->A9v,drop_eq_getElem_cons->Df,drop_succ_cons->rU,getD_eq_getElem?_getD->Z,getElem?_eq_getElem->Ah,length_append->Bf,length_cons->Bz
open Nat renaming add_mul->DY
structure Rt where
 fs:List Rn
 r:Rn
 e:Int
 t:Rn
 f:Int
def Rt.cs(x:Rt):List AV:=[.sl x.fs.length (pc x.fs),.bool x.r.1,.sl x.r.2.length (W x.r.2),.int .i64 x.e,.bool x.t.1,.sl x.t.2.length (W x.t.2),.int .i64 x.f]
def s:Rt:=⟨[],z0,0,z0,0⟩
def Fu:List Rt->List AV
 | []=>[]
 | x::l=>x.cs++Fu l
theorem TY:∀ l:List Rt,(Fu l).length=l.length*7
 | []=>rfl
 | x::l=>by
  have h:=TY l;have e:x.cs.length=7:=rfl;simp only[Fu,Bf,Bz,DY];omega
theorem OM:∀ l k:List Rt,Fu (l++k)=Fu l++Fu k
 | [],_=>rfl
 | x::l,k=>by rw[Ii,Fu,Fu,OM l k,N6]
theorem Zf:∀ (l:List Rt) (i:Nat),(Fu l).drop (i*7)=Fu (l.drop i)
 | [],i=>by simp[Fu]
 | x::l,0=>rfl
 | x::l,i+1=>by
  rw[rU,<- Zf l i];have e:Fu (x::l) = .sl x.fs.length (pc x.fs) :: .bool x.r.1 :: .sl x.r.2.length (W x.r.2) :: .int .i64 x.e :: .bool x.t.1 :: .sl x.t.2.length (W x.t.2) :: .int .i64 x.f::Fu l:=rfl;rw[e,show (i+1)*7=i*7+1+1+1+1+1+1+1 by omega];simp only[rU]
theorem If{l:List Rt}{X:Int}(h:0<=X/\X<(l.length:Int)):Bv (A9v (A X*7) (Fu l)) 0 7 false=some (.agg (l.getD (A X) s).cs):=by
 have hl:=GB h;rw[Zf,Df hl];have e:l.getD (A X) s=l[A X]:=by rw[Z,Ah hl];rfl
 rw[e];rfl
end Go.Ai
namespace Go.Proofs.YtajompaehjkgkaaGreat
open Go.Ai
set_option maxRecDepth 100000
open Decidable renaming decide->A9i
open Go.Ai.AV renaming bool->F,fresh->L,int->D,sl->H,tup->Ax
open Go.Ai.Reg renaming box->A9s,own->A9n,val->A9j
open Go.IntKind renaming i64->O,wrap->I
open Int renaming toNat->A
open List renaming length->Bs
theorem Afl(r:Rn)(e z:Int)(c1:A9i (e>=0)=true)(c2:A9i (e<=64)=true)(n1:RQ 102 [Ay r] (D O z)):RQ 54 [j r e] (F (A9i (z<=128))):=A9x (fn:=Vc) C4 rfl 400 rfl [.b true,.b true,.r (D O z)] (T c1 (T c2 (T n1 a0)))
theorem Afm(r:Rn)(e:Int)(c1:A9i (e>=0)=true)(c2:A9i (e<=64)=false):RQ 54 [j r e] (F false):=A9x (fn:=Vc) C4 rfl 400 rfl [.b true,.b false] (T c1 (T c2 a0))
theorem Afn(r:Rn)(e:Int)(c1:A9i (e>=0)=false):RQ 54 [j r e] (F false):=A9x (fn:=Vc) C4 rfl 400 rfl [.b false,.b false] (T c1 (T ES a0))
theorem WU(ls:List (List Rn))(r t:Rn)(e f x y m:Int)(c1:((I O (x-y))==0)=true):RQ 105 [Y z ls,j r e,j t f,D O x,D O y,D O m] (.frs (.tp true) 7 0 []):=A9x (fn:=Qp) C4 rfl 400 rfl [.b true] (T c1 a0)
theorem WV(ls:List (List Rn))(r t:Rn)(e f x y m:Int)(c1:((I O (x-y))==0)=false)(c2:((I O (x-y))==1)=true)(n1:0<=(0:Int)/\(0:Int)<(ls.length:Int)):RQ 105 [Y z ls,j r e,j t f,D O x,D O y,D O m] (.frs (.tp true) 7 1 [H ((ls.getD (A 0) []).length) (pc (ls.getD (A 0) [])),F r.1,H r.2.length (W r.2),D O e,F t.1,H t.2.length (W t.2),D O f]):=A9x (fn:=Qp) C4 rfl 400 rfl [.b false,.b true,.v (H ((ls.getD (A 0) []).length) (pc (ls.getD (A 0) [])))] (T c1 (T c2 (T n1 (T (Fv n1) a0))))
theorem rV(ls:List (List Rn))(r t:Rn)(e f x y m n g v:Int)(b1 b2:Bool)(k1 k2:Nat)(cs1 cs2:List AV)(c1:((I O (x-y))==0)=false)(c2:((I O (x-y))==1)=false)(c3:A9i (g>m)=false)(c4:(b1)=true)(n1:Bs cs2=k2*7)(n2:k1+k2<=1048576)(n3:RQ 133 [j r e,j t f] (j (V n) g))(n4:RQ 68 [Y z ls,j (V n) g] (D O v))(n5:RQ 105 [Y z ls,j r e,j (V n) g,D O x,D O v,D O m] (.frs (.tp b1) 7 k1 cs1))(n6:RQ 105 [Y z ls,j (V n) g,j t f,D O v,D O y,D O m] (.frs (.tp b2) 7 k2 cs2)):RQ 105 [Y z ls,j r e,j t f,D O x,D O y,D O m] (.frs (.tp b2) 7 (k1+k2) (cs1++cs2)):=A9x (fn:=Qp) C4 rfl 400 rfl [.b false,.b false,.r (j (V n) g),.b false,.r (D O v),.r (.frs (.tp b1) 7 k1 cs1),.b false,.r (.frs (.tp b2) 7 k2 cs2)] (T c1 (T c2 (T n3 (T c3 (T n4 (T n5 (T (Hx c4) (T n6 (T n1 (T n2 a0))))))))))
theorem Afo(rs:List Rn)(ls:List (List Rn))(r t:Rn)(e f m:Int)(c1:A9i ((ls.length:Int)<2)=true)(n1:RQ 67 [Y pc rs] (L 1 ls.length (z ls))):RQ 56 [Y pc rs,j r e,j t f,D O m] (.frs (.tp true) 7 0 []):=A9x (fn:=Yo) C4 rfl 400 rfl [.r (L 1 ls.length (z ls)),.b true] (T n1 (T c1 a0))
theorem Afp(rs:List Rn)(ls:List (List Rn))(r t:Rn)(e f x y m:Int)(b:Bool)(n:Nat)(cs:List AV)(c1:A9i ((ls.length:Int)<2)=false)(n1:RQ 67 [Y pc rs] (L 1 ls.length (z ls)))(n2:RQ 68 [Y z ls,j r e] (D O x))(n3:RQ 68 [Y z ls,j t f] (D O y))(n4:RQ 105 [Y z ls,j r e,j t f,D O x,D O y,D O m] (.frs (.tp b) 7 n cs)):RQ 56 [Y pc rs,j r e,j t f,D O m] (Ax [H n cs,F b]):=A9x (fn:=Yo) C4 rfl 400 rfl [.r (L 1 ls.length (z ls)),.b false,.r (D O x),.r (D O y),.r (.frs (.tp b) 7 n cs)] (T n1 (T c1 (T n2 (T n3 (T n4 a0)))))
def NE(rs:List Rn)(l:List Rt)(k:Nat)(cs:List AV)(N:Int)(i:Int):Al:=(A9j (Y pc rs)::(Ac 9 (A9n 7 k cs::(Ac 34 (A9j (H l.length (Fu l))::(A9j (D O N)::(A9j (D O i)::(Ac 16 []))))))))
theorem A3w(rs:List Rn)(l:List Rt)(k:Nat)(cs:List AV)(N:Int)(i:Int)(ts:List Rn)(n m u v:Int)(sm:Bool)(c1:A9i (i<N)=true)(c2:(sm)=true)(n1:0<=i/\i<(l.length:Int))(n2:k+1<=1048576)(n3:RQ 52 [H (((l.getD (A i) s).fs).length) (pc ((l.getD (A i) s).fs))] (F sm))(n4:RQ 57 [B7 ((l.getD (A i) s).fs) ((l.getD (A i) s).r) ((l.getD (A i) s).e) ((l.getD (A i) s).t) ((l.getD (A i) s).f)] (B7 ts (V n) m (V u) v)):Ar Va (NE rs l k cs N i) .norm (NE rs l (k+1) (cs++([Y pc ts,F ((V n).1),H ((V n).2.length) (W (V n).2),D O m,F ((V u).1),H ((V u).2.length) (W (V u).2),D O v]:List AV)) N (I O (i+1))):=(G C4 400 [.b true,.v (B7 ((l.getD (A i) s).fs) ((l.getD (A i) s).r) ((l.getD (A i) s).e) ((l.getD (A i) s).t) ((l.getD (A i) s).f)),.r (F sm),.b false,.r (B7 ts (V n) m (V u) v)] [0,10,45,46,47] (T c1 (T n1 (T (If n1) (T n3 (T (Hx c2) (T n4 (T (show Bs ([Y pc ts,F ((V n).1),H ((V n).2.length) (W (V n).2),D O m,F ((V u).1),H ((V u).2.length) (W (V u).2),D O v]:List AV)=1*7 from rfl) (T n2 a0)))))))))
theorem A3x(rs:List Rn)(l:List Rt)(k:Nat)(cs:List AV)(N:Int)(i:Int)(c1:A9i (i<N)=false):Ar Va (NE rs l k cs N i) (.exit 1) (NE rs l k cs N i):=(G C4 400 [.b false] [0,10,45,46,47] (T c1 a0))
theorem iR(rs:List Rn)(r t:Rn)(e f d c i:Int)(b v1 v2 ok:Bool)(l:List Rt)(k:Nat)(cs:List AV)(c1:(b)=true)(c2:A9i (d<0)=false)(c3:(v1)=true)(c4:(v2)=true)(c5:A9i (c>0)=false)(c6:(ok)=true)(n1:RQ 52 [Y pc rs] (F b))(n2:RQ 53 [Y pc rs] (D O d))(n3:RQ 54 [j r e] (F v1))(n4:RQ 54 [j t f] (F v2))(n5:RQ 55 [j r e,j t f] (D O c))(n6:RQ 56 [Y pc rs,j r e,j t f,D O 896] (.frs (.tp ok) 7 l.length (Fu l)))(hl7:Ar (.loop Va) (NE rs l 0 ([]:List AV) (l.length:Int) 0) (.exit 1) (NE rs l k cs (l.length:Int) i)):RQ 15 [Y pc rs,j r e,j t f] (Ax [H k cs,D O 0]):=A9g Yl (Ac 6 (A9n 7 k cs::(A9j (D O 0)::(Ac 56 [])))) (A9m (A9m (A9m (A9m (A9t (C1.seq (G C4 400 [.r (F b),.b false,.r (D O d),.b false,.r (F v1),.b false,.r (F v2),.b false,.r (D O c),.b false,.r (.frs (.tp ok) 7 l.length (Fu l)),.b false] [0,10,45,46,47] (T n1 (T (Hx c1) (T n2 (T c2 (T n3 (T (Hx c3) (T n4 (T (Hx c4) (T n5 (T c5 (T n6 (T (Hx c6) a0))))))))))))) (C1.seq (C1.block hl7) (G C4 400 [] [6,7] a0))))))))
theorem iS(rs:List Rn)(r t:Rn)(e f d c i:Int)(b v1 v2 ok:Bool)(l:List Rt)(k:Nat)(cs:List AV)(c1:(b)=true)(c2:A9i (d<0)=false)(c3:(v1)=true)(c4:(v2)=true)(c5:A9i (c>0)=false)(c6:(ok)=true)(n1:RQ 52 [Y pc rs] (F b))(n2:RQ 53 [Y pc rs] (D O d))(n3:RQ 54 [j r e] (F v1))(n4:RQ 54 [j t f] (F v2))(n5:RQ 55 [j r e,j t f] (D O c))(n6:RQ 56 [Y pc rs,j r e,j t f,D O 896] (Ax [H l.length (Fu l),F ok]))(hl7:Ar (.loop Va) (NE rs l 0 ([]:List AV) (l.length:Int) 0) (.exit 1) (NE rs l k cs (l.length:Int) i)):RQ 15 [Y pc rs,j r e,j t f] (Ax [H k cs,D O 0]):=A9g Yl (Ac 6 (A9n 7 k cs::(A9j (D O 0)::(Ac 56 [])))) (A9m (A9m (A9m (A9m (A9t (C1.seq (G C4 400 [.r (F b),.b false,.r (D O d),.b false,.r (F v1),.b false,.r (F v2),.b false,.r (D O c),.b false,.r (Ax [H l.length (Fu l),F ok]),.b false] [0,10,45,46,47] (T n1 (T (Hx c1) (T n2 (T c2 (T n3 (T (Hx c3) (T n4 (T (Hx c4) (T n5 (T c5 (T n6 (T (Hx c6) a0))))))))))))) (C1.seq (C1.block hl7) (G C4 400 [] [6,7] a0))))))))
theorem Aws(rs:List Rn)(ls:List (List Rn))(r t:Rn)(e f x y:Int)(n1:RQ 67 [Y pc rs] (L 1 ls.length (z ls)))(n2:RQ 68 [Y z ls,j r e] (D O x))(n3:RQ 68 [Y z ls,j t f] (D O y)):RQ 136 [Y pc rs,j r e,j t f] (D O (I O (x-y))):=A9x (fn:=V7) C4 rfl 400 rfl [.r (L 1 ls.length (z ls)),.r (D O x),.r (D O y)] (T n1 (T n2 (T n3 a0)))
def ON(o:Int)(fs:List Rn)(r:Rn)(e:Int)(t:Rn)(f:Int)(gs:List Rn)(p:Rn)(c:Int)(q:Rn)(d:Int):Al:=(Ac 2 (M4 fs r e t f::(M4 gs p c q d::(A9j (D O o)::(Ac 31 [])))))
theorem A3y(o:Int)(fs:List Rn)(r:Rn)(e:Int)(t:Rn)(f:Int)(gs:List Rn)(p:Rn)(c:Int)(q:Rn)(d:Int)(c_tp:Int)(c1:A9i (c_tp<=0)=true)(n1:RQ 55 [j t f,j p c] (D O c_tp)):Ar Vg (ON o fs r e t f gs p c q d) .ret (ON (-1) fs r e t f gs p c q d):=(G C4 400 [.r (D O c_tp),.b true] [2,3,4] (T n1 (T c1 a0)))
theorem A3z(o:Int)(fs:List Rn)(r:Rn)(e:Int)(t:Rn)(f:Int)(gs:List Rn)(p:Rn)(c:Int)(q:Rn)(d:Int)(c_tp c_qr:Int)(c1:A9i (c_tp<=0)=false)(c2:A9i (c_qr<=0)=true)(n1:RQ 55 [j t f,j p c] (D O c_tp))(n2:RQ 55 [j q d,j r e] (D O c_qr)):Ar Vg (ON o fs r e t f gs p c q d) .ret (ON 1 fs r e t f gs p c q d):=(G C4 400 [.r (D O c_tp),.b false,.r (D O c_qr),.b true] [2,3,4] (T n1 (T c1 (T n2 (T c2 a0)))))
theorem A4a(o:Int)(fs:List Rn)(r:Rn)(e:Int)(t:Rn)(f:Int)(gs:List Rn)(p:Rn)(c:Int)(q:Rn)(d:Int)(c_tp c_qr:Int)(fs1 gs1:List Rn)(r1 t1 p1 q1:Rn)(e1 f1 g1 h1:Int)(c1:A9i (c_tp<=0)=false)(c2:A9i (c_qr<=0)=false)(n1:RQ 55 [j t f,j p c] (D O c_tp))(n2:RQ 55 [j q d,j r e] (D O c_qr))(n3:RQ 82 [B7 fs r e t f] (B7 fs1 r1 e1 t1 f1))(n4:RQ 82 [B7 gs p c q d] (B7 gs1 p1 g1 q1 h1)):Ar Vg (ON o fs r e t f gs p c q d) .norm (ON o fs1 r1 e1 t1 f1 gs1 p1 g1 q1 h1):=(G C4 400 [.r (D O c_tp),.b false,.r (D O c_qr),.b false,.r (B7 fs1 r1 e1 t1 f1),.r (B7 gs1 p1 g1 q1 h1)] [2,3,4] (T n1 (T c1 (T n2 (T c2 (T n3 (T n4 a0)))))))
theorem Afq(fs:List Rn)(r t:Rn)(e f:Int)(gs:List Rn)(p q:Rn)(c d:Int)(c_tp:Int)(c1:A9i (c_tp<0)=true)(n1:RQ 55 [j t f,j p c] (D O c_tp)):RQ 74 [B7 fs r e t f,B7 gs p c q d] (D O (-1)):=A9g T3 (Ac 4 (A9j (D O (-1))::(Ac 31 []))) (A9m (A9m (A9m (A8 (G C4 400 [.r (D O c_tp),.b true] [4] (T n1 (T c1 a0))) (by nofun)))))
theorem Afr(fs:List Rn)(r t:Rn)(e f:Int)(gs:List Rn)(p q:Rn)(c d:Int)(c_tp c_qr:Int)(c1:A9i (c_tp<0)=false)(c2:A9i (c_qr<0)=true)(n1:RQ 55 [j t f,j p c] (D O c_tp))(n2:RQ 55 [j q d,j r e] (D O c_qr)):RQ 74 [B7 fs r e t f,B7 gs p c q d] (D O 1):=A9g T3 (Ac 4 (A9j (D O 1)::(Ac 31 []))) (A9m (A9m (A9m (A8 (G C4 400 [.r (D O c_tp),.b false,.r (D O c_qr),.b true] [4] (T n1 (T c1 (T n2 (T c2 a0))))) (by nofun)))))
theorem Afs(fs:List Rn)(r t:Rn)(e f:Int)(gs:List Rn)(p q:Rn)(c d:Int)(c_tp c_qr:Int)(eq:Bool)(c1:A9i (c_tp<0)=false)(c2:A9i (c_qr<0)=false)(c3:(eq)=true)(n1:RQ 55 [j t f,j p c] (D O c_tp))(n2:RQ 55 [j q d,j r e] (D O c_qr))(n3:RQ 124 [B7 fs r e t f,B7 gs p c q d] (F eq)):RQ 74 [B7 fs r e t f,B7 gs p c q d] (D O 0):=A9g T3 (Ac 4 (A9j (D O 0)::(Ac 31 []))) (A9m (A9m (A9m (A8 (G C4 400 [.r (D O c_tp),.b false,.r (D O c_qr),.b false,.r (F eq),.b true] [4] (T n1 (T c1 (T n2 (T c2 (T n3 (T c3 a0))))))) (by nofun)))))
theorem Aft(fs:List Rn)(r t:Rn)(e f:Int)(gs:List Rn)(p q:Rn)(c d:Int)(c_tp c_qr z:Int)(eq:Bool)(fs1 gs1:List Rn)(r1 t1 p1 q1:Rn)(e1 f1 g1 h1:Int)(c1:A9i (c_tp<0)=false)(c2:A9i (c_qr<0)=false)(c3:(eq)=false)(n1:RQ 55 [j t f,j p c] (D O c_tp))(n2:RQ 55 [j q d,j r e] (D O c_qr))(n3:RQ 124 [B7 fs r e t f,B7 gs p c q d] (F eq))(hl4:Ar (.loop Vg) (ON 0 fs r e t f gs p c q d) .ret (ON z fs1 r1 e1 t1 f1 gs1 p1 g1 q1 h1)):RQ 74 [B7 fs r e t f,B7 gs p c q d] (D O z):=A9g T3 (Ac 2 (M4 fs1 r1 e1 t1 f1::(M4 gs1 p1 g1 q1 h1::(A9j (D O z)::(Ac 31 []))))) (A9m (A9m (A9m (C1.seq (G C4 400 [.r (D O c_tp),.b false,.r (D O c_qr),.b false,.r (F eq),.b false] [2,3,4] (T n1 (T c1 (T n2 (T c2 (T n3 (T c3 a0))))))) (Ct hl4)))))
theorem Afu(fs:List Rn)(r t:Rn)(e f:Int)(gs:List Rn)(p q:Rn)(c d:Int)(fs1 gs1:List Rn)(z:Int)(v1 v2:Bool)(c1:(v1)=true)(c2:(v2)=true)(n1:RQ 18 [B7 fs r e t f] (F v1))(n2:RQ 18 [B7 gs p c q d] (F v2))(n3:RQ 75 [B7 fs r e t f] (B7 fs1 r e t f))(n4:RQ 75 [B7 gs p c q d] (B7 gs1 p c q d))(n5:RQ 74 [B7 fs1 r e t f,B7 gs1 p c q d] (D O z)):RQ 23 [B7 fs r e t f,B7 gs p c q d] (Ax [D O z,D O 0]):=A9x (fn:=cP) C4 rfl 400 rfl [.r (F v1),.b false,.r (F v2),.b false,.r (B7 fs1 r e t f),.r (B7 gs1 p c q d),.r (D O z)] (T n1 (T (Hx c1) (T n2 (T (Hx c2) (T n3 (T n4 (T n5 a0)))))))
def A7j:Cw:=TXC
theorem OO:Ch AZ A7j:=C4
theorem uX(n e:Int)(n1:RQ 49 [D O n] (Ag n)):RQ 50 [D O n,D O e] (j (V n) e):=A9x (fn:=cT) OO rfl 400 rfl [.r (Ag n)] (T n1 a0)
theorem A4b(rs:List Rn)(l:List Rt)(e:Int)(n1:RQ 50 [D O (-40),D O 0] (j (V (-40)) 0))(n2:RQ 50 [D O 40,D O 0] (j (V 40) 0))(n3:RQ 15 [Y pc rs,j (V (-40)) 0,j (V 40) 0] (Ax [H l.length (Fu l),D O e])):RQ 22 [Y pc rs] (Ax [H l.length (Fu l),F (e==0)]):=A9x (fn:=cO) OO rfl 400 rfl [.r (j (V (-40)) 0),.r (j (V 40) 0),.r (Ax [H l.length (Fu l),D O e])] (T n1 (T n2 (T n3 a0)))
def TXUA:Cw:=A7j
theorem AM:Ch AZ TXUA:=OO
theorem Afv(fs:List Rn)(r t:Rn)(e f:Int)(gs:List Rn)(c1:A9i ((gs.length:Int)<2)=true):RQ 69 [B7 fs r e t f,Y pc gs] (F false):=A9x (fn:=Yq) AM rfl 400 rfl [.b true] (T c1 a0)
theorem Afw(fs:List Rn)(r t:Rn)(e f:Int)(gs:List Rn)(c n:Int)(c1:A9i ((gs.length:Int)<2)=false)(c2:(c==0)=false)(n1:RQ 33 [j r e,j t f] (D O c))(n2:RQ 63 [Y pc gs,j r e,j t f] (D O n)):RQ 69 [B7 fs r e t f,Y pc gs] (F (n==1)):=A9x (fn:=Yq) AM rfl 400 rfl [.b false,.r (D O c),.b false,.r (D O n)] (T c1 (T n1 (T c2 (T n2 a0))))
theorem Afx(fs:List Rn)(r t:Rn)(e f:Int)(gs:List Rn)(p q:Rn)(c d:Int)(x:Int)(c1:A9i (x<=0)=true)(n1:RQ 33 [j t f,j p c] (D O x)):RQ 71 [B7 fs r e t f,B7 gs p c q d] (F true):=A9x (fn:=Ys) AM rfl 400 rfl [.r (D O x),.b true] (T n1 (T c1 a0))
theorem Afy(fs:List Rn)(r t:Rn)(e f:Int)(gs:List Rn)(p q:Rn)(c d:Int)(x y:Int)(c1:A9i (x<=0)=false)(n1:RQ 33 [j t f,j p c] (D O x))(n2:RQ 33 [j q d,j r e] (D O y)):RQ 71 [B7 fs r e t f,B7 gs p c q d] (F (A9i (y<=0))):=A9x (fn:=Ys) AM rfl 400 rfl [.r (D O x),.b false,.r (D O y)] (T n1 (T c1 (T n2 a0)))
def EP(o:Int)(fs:List Rn)(r:Rn)(e:Int)(t:Rn)(f:Int)(gs:List Rn)(p:Rn)(c:Int)(q:Rn)(d:Int)(i:Int):Al:=(Ac 2 (M4 fs r e t f::(M4 gs p c q d::(A9j (D O o)::(A9j (D O i)::(Ac 81 []))))))
theorem iT(o:Int)(fs:List Rn)(r:Rn)(e:Int)(t:Rn)(f:Int)(gs:List Rn)(p:Rn)(c:Int)(q:Rn)(d:Int)(i:Int)(c1:(i==8)=false):Ar GU (EP o fs r e t f gs p c q d i) .norm (EP o fs r e t f gs p c q d i):=(G AM 400 [.b false,.b false,.b false,.b false] [2,3,4,5] (T c1 (T ES (T ES (T ES a0)))))
theorem Afz(o:Int)(fs:List Rn)(r:Rn)(e:Int)(t:Rn)(f:Int)(gs:List Rn)(p:Rn)(c:Int)(q:Rn)(d:Int)(i:Int)(hs:List Rn)(b1:Bool)(w_p w_q:Int)(c1:(i==8)=true)(c2:(b1)=true)(c3:A9i (w_p>0)=true)(c4:A9i (w_q<=0)=true)(n1:RQ 70 [Y pc fs,Y pc gs] (Y pc hs))(n2:RQ 69 [B7 fs r e t f,Y pc hs] (F b1))(n3:RQ 27 [B7 fs r e t f,j p c] (D O w_p))(n4:RQ 27 [B7 fs r e t f,j q d] (D O w_q)):Ar GU (EP o fs r e t f gs p c q d i) .ret (EP 0 fs r e t f gs p c q d i):=(G AM 400 [.b true,.r (Y pc hs),.r (F b1),.b true,.r (D O w_p),.b true,.r (D O w_q),.b true] [2,3,4,5] (T c1 (T n1 (T n2 (T c2 (T n3 (T c3 (T n4 (T c4 a0)))))))))
theorem Aga(o:Int)(fs:List Rn)(r:Rn)(e:Int)(t:Rn)(f:Int)(gs:List Rn)(p:Rn)(c:Int)(q:Rn)(d:Int)(i:Int)(hs:List Rn)(b1:Bool)(w_p w_q:Int)(c1:(i==8)=true)(c2:(b1)=true)(c3:A9i (w_p>0)=true)(c4:A9i (w_q<=0)=false)(n1:RQ 70 [Y pc fs,Y pc gs] (Y pc hs))(n2:RQ 69 [B7 fs r e t f,Y pc hs] (F b1))(n3:RQ 27 [B7 fs r e t f,j p c] (D O w_p))(n4:RQ 27 [B7 fs r e t f,j q d] (D O w_q)):Ar GU (EP o fs r e t f gs p c q d i) .norm (EP o fs r e t f gs p c q d i):=(G AM 400 [.b true,.r (Y pc hs),.r (F b1),.b true,.r (D O w_p),.b true,.r (D O w_q),.b false] [2,3,4,5] (T c1 (T n1 (T n2 (T c2 (T n3 (T c3 (T n4 (T c4 a0)))))))))
theorem Agb(o:Int)(fs:List Rn)(r:Rn)(e:Int)(t:Rn)(f:Int)(gs:List Rn)(p:Rn)(c:Int)(q:Rn)(d:Int)(i:Int)(hs:List Rn)(b1:Bool)(w_p:Int)(c1:(i==8)=true)(c2:(b1)=true)(c3:A9i (w_p>0)=false)(n1:RQ 70 [Y pc fs,Y pc gs] (Y pc hs))(n2:RQ 69 [B7 fs r e t f,Y pc hs] (F b1))(n3:RQ 27 [B7 fs r e t f,j p c] (D O w_p)):Ar GU (EP o fs r e t f gs p c q d i) .norm (EP o fs r e t f gs p c q d i):=(G AM 400 [.b true,.r (Y pc hs),.r (F b1),.b true,.r (D O w_p),.b false,.b false] [2,3,4,5] (T c1 (T n1 (T n2 (T c2 (T n3 (T c3 (T ES a0))))))))
theorem Agc(o:Int)(fs:List Rn)(r:Rn)(e:Int)(t:Rn)(f:Int)(gs:List Rn)(p:Rn)(c:Int)(q:Rn)(d:Int)(i:Int)(hs:List Rn)(b1:Bool)(c1:(i==8)=true)(c2:(b1)=false)(n1:RQ 70 [Y pc fs,Y pc gs] (Y pc hs))(n2:RQ 69 [B7 fs r e t f,Y pc hs] (F b1)):Ar GU (EP o fs r e t f gs p c q d i) .norm (EP o fs r e t f gs p c q d i):=(G AM 400 [.b true,.r (Y pc hs),.r (F b1),.b false,.b false,.b false] [2,3,4,5] (T c1 (T n1 (T n2 (T c2 (T ES (T ES a0)))))))
theorem Agd(o:Int)(fs:List Rn)(r:Rn)(e:Int)(t:Rn)(f:Int)(gs:List Rn)(p:Rn)(c:Int)(q:Rn)(d:Int)(i:Int)(hs:List Rn)(b1:Bool)(w_p w_q:Int)(c1:(i==8)=true)(c2:(b1)=true)(c3:A9i (w_p>0)=true)(c4:A9i (w_q<=0)=true)(n1:RQ 70 [Y pc fs,Y pc gs] (L 2 hs.length (pc hs)))(n2:RQ 69 [B7 fs r e t f,Y pc hs] (F b1))(n3:RQ 27 [B7 fs r e t f,j p c] (D O w_p))(n4:RQ 27 [B7 fs r e t f,j q d] (D O w_q)):Ar GU (EP o fs r e t f gs p c q d i) .ret (EP 0 fs r e t f gs p c q d i):=(G AM 400 [.b true,.r (L 2 hs.length (pc hs)),.r (F b1),.b true,.r (D O w_p),.b true,.r (D O w_q),.b true] [2,3,4,5] (T c1 (T n1 (T n2 (T c2 (T n3 (T c3 (T n4 (T c4 a0)))))))))
theorem Age(o:Int)(fs:List Rn)(r:Rn)(e:Int)(t:Rn)(f:Int)(gs:List Rn)(p:Rn)(c:Int)(q:Rn)(d:Int)(i:Int)(hs:List Rn)(b1:Bool)(w_p w_q:Int)(c1:(i==8)=true)(c2:(b1)=true)(c3:A9i (w_p>0)=true)(c4:A9i (w_q<=0)=false)(n1:RQ 70 [Y pc fs,Y pc gs] (L 2 hs.length (pc hs)))(n2:RQ 69 [B7 fs r e t f,Y pc hs] (F b1))(n3:RQ 27 [B7 fs r e t f,j p c] (D O w_p))(n4:RQ 27 [B7 fs r e t f,j q d] (D O w_q)):Ar GU (EP o fs r e t f gs p c q d i) .norm (EP o fs r e t f gs p c q d i):=(G AM 400 [.b true,.r (L 2 hs.length (pc hs)),.r (F b1),.b true,.r (D O w_p),.b true,.r (D O w_q),.b false] [2,3,4,5] (T c1 (T n1 (T n2 (T c2 (T n3 (T c3 (T n4 (T c4 a0)))))))))
theorem Agf(o:Int)(fs:List Rn)(r:Rn)(e:Int)(t:Rn)(f:Int)(gs:List Rn)(p:Rn)(c:Int)(q:Rn)(d:Int)(i:Int)(hs:List Rn)(b1:Bool)(w_p:Int)(c1:(i==8)=true)(c2:(b1)=true)(c3:A9i (w_p>0)=false)(n1:RQ 70 [Y pc fs,Y pc gs] (L 2 hs.length (pc hs)))(n2:RQ 69 [B7 fs r e t f,Y pc hs] (F b1))(n3:RQ 27 [B7 fs r e t f,j p c] (D O w_p)):Ar GU (EP o fs r e t f gs p c q d i) .norm (EP o fs r e t f gs p c q d i):=(G AM 400 [.b true,.r (L 2 hs.length (pc hs)),.r (F b1),.b true,.r (D O w_p),.b false,.b false] [2,3,4,5] (T c1 (T n1 (T n2 (T c2 (T n3 (T c3 (T ES a0))))))))
theorem Agg(o:Int)(fs:List Rn)(r:Rn)(e:Int)(t:Rn)(f:Int)(gs:List Rn)(p:Rn)(c:Int)(q:Rn)(d:Int)(i:Int)(hs:List Rn)(b1:Bool)(c1:(i==8)=true)(c2:(b1)=false)(n1:RQ 70 [Y pc fs,Y pc gs] (L 2 hs.length (pc hs)))(n2:RQ 69 [B7 fs r e t f,Y pc hs] (F b1)):Ar GU (EP o fs r e t f gs p c q d i) .norm (EP o fs r e t f gs p c q d i):=(G AM 400 [.b true,.r (L 2 hs.length (pc hs)),.r (F b1),.b false,.b false,.b false] [2,3,4,5] (T c1 (T n1 (T n2 (T c2 (T ES (T ES a0)))))))
def Jg(o:Int)(fs:List Rn)(r:Rn)(e:Int)(t:Rn)(f:Int)(gs:List Rn)(p:Rn)(c:Int)(q:Rn)(d:Int)(i:Int):Al:=(Ac 2 (M4 fs r e t f::(M4 gs p c q d::(A9j (D O o)::(A9j (D O i)::(Ac 81 []))))))
theorem Awt(o:Int)(fs:List Rn)(r:Rn)(e:Int)(t:Rn)(f:Int)(gs:List Rn)(p:Rn)(c:Int)(q:Rn)(d:Int)(i:Int)(b2:Bool)(c_rp:Int)(c1:A9i (i>=8)=true)(c2:(b2)=true)(c3:A9i (c_rp<0)=true)(n1:RQ 71 [B7 fs r e t f,B7 gs p c q d] (F b2))(n2:RQ 33 [j r e,j p c] (D O c_rp)):Ar KO (Jg o fs r e t f gs p c q d i) .ret (Jg (-1) fs r e t f gs p c q d i):=(G AM 400 [.b true,.r (F b2),.b true,.r (D O c_rp),.b true] [2,3,4,5] (T c1 (T n1 (T c2 (T n2 (T c3 a0))))))
theorem Awu(o:Int)(fs:List Rn)(r:Rn)(e:Int)(t:Rn)(f:Int)(gs:List Rn)(p:Rn)(c:Int)(q:Rn)(d:Int)(i:Int)(b2:Bool)(c_rp:Int)(c1:A9i (i>=8)=true)(c2:(b2)=true)(c3:A9i (c_rp<0)=false)(n1:RQ 71 [B7 fs r e t f,B7 gs p c q d] (F b2))(n2:RQ 33 [j r e,j p c] (D O c_rp)):Ar KO (Jg o fs r e t f gs p c q d i) .ret (Jg 1 fs r e t f gs p c q d i):=(G AM 400 [.b true,.r (F b2),.b true,.r (D O c_rp),.b false] [2,3,4,5] (T c1 (T n1 (T c2 (T n2 (T c3 a0))))))
theorem Awv(o:Int)(fs:List Rn)(r:Rn)(e:Int)(t:Rn)(f:Int)(gs:List Rn)(p:Rn)(c:Int)(q:Rn)(d:Int)(i:Int)(b2:Bool)(c1:A9i (i>=8)=true)(c2:(b2)=false)(n1:RQ 71 [B7 fs r e t f,B7 gs p c q d] (F b2)):Ar KO (Jg o fs r e t f gs p c q d i) .norm (Jg o fs r e t f gs p c q d i):=(G AM 400 [.b true,.r (F b2),.b false] [2,3,4,5] (T c1 (T n1 (T c2 a0))))
theorem Aww(o:Int)(fs:List Rn)(r:Rn)(e:Int)(t:Rn)(f:Int)(gs:List Rn)(p:Rn)(c:Int)(q:Rn)(d:Int)(i:Int)(c1:A9i (i>=8)=false):Ar KO (Jg o fs r e t f gs p c q d i) .norm (Jg o fs r e t f gs p c q d i):=(G AM 400 [.b false,.b false] [2,3,4,5] (T c1 (T ES a0)))
def M5(o:Int)(fs:List Rn)(r:Rn)(e:Int)(t:Rn)(f:Int)(gs:List Rn)(p:Rn)(c:Int)(q:Rn)(d:Int)(i:Int):Al:=(Ac 2 (M4 fs r e t f::(M4 gs p c q d::(A9j (D O o)::(A9j (D O i)::(Ac 81 []))))))
theorem A4c(o:Int)(fs:List Rn)(r:Rn)(e:Int)(t:Rn)(f:Int)(gs:List Rn)(p:Rn)(c:Int)(q:Rn)(d:Int)(i:Int)(c_tp:Int)(c3:A9i (c_tp<0)=true)(n1:RQ 33 [j t f,j p c] (D O c_tp)):Ar GV (M5 o fs r e t f gs p c q d i) .ret (M5 (-1) fs r e t f gs p c q d i):=(A8 (Ct (A8 (G AM 400 [.r (D O c_tp),.b true] [2,3,4,5] (T n1 (T c3 a0))) (by nofun))) (by nofun))
theorem A4d(o:Int)(fs:List Rn)(r:Rn)(e:Int)(t:Rn)(f:Int)(gs:List Rn)(p:Rn)(c:Int)(q:Rn)(d:Int)(i:Int)(c_tp c_qr:Int)(c3:A9i (c_tp<0)=false)(c4:A9i (c_qr<0)=true)(n1:RQ 33 [j t f,j p c] (D O c_tp))(n2:RQ 33 [j q d,j r e] (D O c_qr)):Ar GV (M5 o fs r e t f gs p c q d i) .ret (M5 1 fs r e t f gs p c q d i):=(A8 (Ct (A8 (G AM 400 [.r (D O c_tp),.b false,.r (D O c_qr),.b true] [2,3,4,5] (T n1 (T c3 (T n2 (T c4 a0))))) (by nofun))) (by nofun))
theorem A4e(o:Int)(fs:List Rn)(r:Rn)(e:Int)(t:Rn)(f:Int)(gs:List Rn)(p:Rn)(c:Int)(q:Rn)(d:Int)(i:Int)(z:Int)(c_tp c_qr c_rt c_pq:Int)(c1:(c_rt==0)=false)(c2:(c_pq==0)=false)(c3:A9i (c_tp<0)=false)(c4:A9i (c_qr<0)=false)(n1:RQ 33 [j t f,j p c] (D O c_tp))(n2:RQ 33 [j q d,j r e] (D O c_qr))(n3:RQ 33 [j r e,j t f] (D O c_rt))(n4:RQ 33 [j p c,j q d] (D O c_pq))(hl5:Ar GU (EP o fs r e t f gs p c q d i) .ret (EP z fs r e t f gs p c q d i)):Ar GV (M5 o fs r e t f gs p c q d i) .ret (M5 z fs r e t f gs p c q d i):=(A8 (Ct (C1.seq (G AM 400 [.r (D O c_tp),.b false,.r (D O c_qr),.b false,.r (D O c_rt),.b false,.r (D O c_pq),.b false] [2,3,4,5] (T n1 (T c3 (T n2 (T c4 (T n3 (T c1 (T n4 (T c2 a0))))))))) (A8 hl5 (by nofun)))) (by nofun))
theorem Awx(o:Int)(fs:List Rn)(r:Rn)(e:Int)(t:Rn)(f:Int)(gs:List Rn)(p:Rn)(c:Int)(q:Rn)(d:Int)(i:Int)(z:Int)(c_tp c_qr c_rt c_pq:Int)(c1:(c_rt==0)=false)(c2:(c_pq==0)=false)(c3:A9i (c_tp<0)=false)(c4:A9i (c_qr<0)=false)(n1:RQ 33 [j t f,j p c] (D O c_tp))(n2:RQ 33 [j q d,j r e] (D O c_qr))(n3:RQ 33 [j r e,j t f] (D O c_rt))(n4:RQ 33 [j p c,j q d] (D O c_pq))(hl5:Ar GU (EP o fs r e t f gs p c q d i) .norm (EP o fs r e t f gs p c q d i))(hl6:Ar KO (Jg o fs r e t f gs p c q d i) .ret (Jg z fs r e t f gs p c q d i)):Ar GV (M5 o fs r e t f gs p c q d i) .ret (M5 z fs r e t f gs p c q d i):=(A8 (Ct (C1.seq (G AM 400 [.r (D O c_tp),.b false,.r (D O c_qr),.b false,.r (D O c_rt),.b false,.r (D O c_pq),.b false] [2,3,4,5] (T n1 (T c3 (T n2 (T c4 (T n3 (T c1 (T n4 (T c2 a0))))))))) (C1.seq hl5 (A8 hl6 (by nofun))))) (by nofun))
theorem Awy(o:Int)(fs:List Rn)(r:Rn)(e:Int)(t:Rn)(f:Int)(gs:List Rn)(p:Rn)(c:Int)(q:Rn)(d:Int)(i:Int)(c_tp c_qr c_rt c_pq:Int)(fs1 gs1:List Rn)(r1 t1 p1 q1:Rn)(e1 f1 g1 h1:Int)(c1:(c_rt==0)=false)(c2:(c_pq==0)=false)(c3:A9i (c_tp<0)=false)(c4:A9i (c_qr<0)=false)(n1:RQ 33 [j t f,j p c] (D O c_tp))(n2:RQ 33 [j q d,j r e] (D O c_qr))(n3:RQ 33 [j r e,j t f] (D O c_rt))(n4:RQ 33 [j p c,j q d] (D O c_pq))(hl5:Ar GU (EP o fs r e t f gs p c q d i) .norm (EP o fs r e t f gs p c q d i))(hl6:Ar KO (Jg o fs r e t f gs p c q d i) .norm (Jg o fs r e t f gs p c q d i))(n7:RQ 72 [B7 fs r e t f] (B7 fs1 r1 e1 t1 f1))(n8:RQ 72 [B7 gs p c q d] (B7 gs1 p1 g1 q1 h1)):Ar GV (M5 o fs r e t f gs p c q d i) .norm (M5 o fs1 r1 e1 t1 f1 gs1 p1 g1 q1 h1 (I O (i+1))):=(C1.seq (B_ (C1.seq (G AM 400 [.r (D O c_tp),.b false,.r (D O c_qr),.b false,.r (D O c_rt),.b false,.r (D O c_pq),.b false] [2,3,4,5] (T n1 (T c3 (T n2 (T c4 (T n3 (T c1 (T n4 (T c2 a0))))))))) (C1.seq hl5 (C1.seq hl6 (G (t:=(Ac 2 (M4 fs1 r1 e1 t1 f1::(M4 gs1 p1 g1 q1 h1::(m o::(m i::(Ac 81 []))))))) AM 400 [.r (B7 fs1 r1 e1 t1 f1),.r (B7 gs1 p1 g1 q1 h1)] [2,3,4,5] (T n7 (T n8 a0))))))) (G AM 400 [] [2,3,4,5] a0))
theorem A4f(fs:List Rn)(r t:Rn)(e f:Int)(gs:List Rn)(p q:Rn)(c d:Int)(z i:Int)(fs1 gs1:List Rn)(r1 t1 p1 q1:Rn)(e1 f1 g1 h1:Int)(hl1:Ar (.loop GV) (M5 0 fs r e t f gs p c q d 0) .ret (M5 z fs1 r1 e1 t1 f1 gs1 p1 g1 q1 h1 i)):RQ 19 [B7 fs r e t f,B7 gs p c q d] (D O z):=A9g cL (Ac 2 (M4 fs1 r1 e1 t1 f1::(M4 gs1 p1 g1 q1 h1::(A9j (D O z)::(A9j (D O i)::(Ac 81 [])))))) (A9m (C1.seq (G AM 400 [] [2,3,4,5] a0) (Ct hl1)))
def EJ(o:Bool)(fs:List Rn)(r:Rn)(e:Int)(t:Rn)(f:Int)(gs:List Rn)(p:Rn)(c:Int)(q:Rn)(d:Int)(u:Rn)(a:Int)(w:Rn)(b:Int):Al:=(Ac 2 (M4 fs r e t f::(M4 gs p c q d::(A9j (F o)::(A9s [F u.1,H u.2.length (W u.2),D O a]::(A9s [F w.1,H w.2.length (W w.2),D O b]::(Ac 54 [])))))))
theorem Agh(o:Bool)(fs:List Rn)(r:Rn)(e:Int)(t:Rn)(f:Int)(gs:List Rn)(p:Rn)(c:Int)(q:Rn)(d:Int)(u:Rn)(a:Int)(w:Rn)(b:Int)(c_uw:Int)(c1:A9i (c_uw>=0)=true)(n1:RQ 55 [j u a,j w b] (D O c_uw)):Ar I0 (EJ o fs r e t f gs p c q d u a w b) .ret (EJ false fs r e t f gs p c q d u a w b):=(G AM 400 [.r (D O c_uw),.b true] [2,3,4,5,6] (T n1 (T c1 a0)))
theorem Agi(o:Bool)(fs:List Rn)(r:Rn)(e:Int)(t:Rn)(f:Int)(gs:List Rn)(p:Rn)(c:Int)(q:Rn)(d:Int)(u:Rn)(a:Int)(w:Rn)(b:Int)(hs:List Rn)(c_uw x:Int)(c1:A9i (c_uw>=0)=false)(c2:A9i ((hs.length:Int)>1)=true)(n1:RQ 55 [j u a,j w b] (D O c_uw))(n2:RQ 135 [Y pc fs,Y pc gs] (Y pc hs))(n3:RQ 136 [Y pc hs,j u a,j w b] (D O x)):Ar I0 (EJ o fs r e t f gs p c q d u a w b) .ret (EJ (A9i (x>0)) fs r e t f gs p c q d u a w b):=(G AM 400 [.r (D O c_uw),.b false,.r (Y pc hs),.b true,.r (D O x)] [2,3,4,5,6] (T n1 (T c1 (T n2 (T c2 (T n3 a0))))))
theorem Agj(o:Bool)(fs:List Rn)(r:Rn)(e:Int)(t:Rn)(f:Int)(gs:List Rn)(p:Rn)(c:Int)(q:Rn)(d:Int)(u:Rn)(a:Int)(w:Rn)(b:Int)(hs:List Rn)(c_uw:Int)(c1:A9i (c_uw>=0)=false)(c2:A9i ((hs.length:Int)>1)=false)(n1:RQ 55 [j u a,j w b] (D O c_uw))(n2:RQ 135 [Y pc fs,Y pc gs] (Y pc hs)):Ar I0 (EJ o fs r e t f gs p c q d u a w b) .ret (EJ false fs r e t f gs p c q d u a w b):=(G AM 400 [.r (D O c_uw),.b false,.r (Y pc hs),.b false] [2,3,4,5,6] (T n1 (T c1 (T n2 (T c2 a0)))))
theorem rW(o:Bool)(fs:List Rn)(r:Rn)(e:Int)(t:Rn)(f:Int)(gs:List Rn)(p:Rn)(c:Int)(q:Rn)(d:Int)(u:Rn)(a:Int)(w:Rn)(b:Int)(hs:List Rn)(c_uw x:Int)(c1:A9i (c_uw>=0)=false)(c2:A9i ((hs.length:Int)>1)=true)(n1:RQ 55 [j u a,j w b] (D O c_uw))(n2:RQ 135 [Y pc fs,Y pc gs] (L 2 hs.length (pc hs)))(n3:RQ 136 [Y pc hs,j u a,j w b] (D O x)):Ar I0 (EJ o fs r e t f gs p c q d u a w b) .ret (EJ (A9i (x>0)) fs r e t f gs p c q d u a w b):=(G AM 400 [.r (D O c_uw),.b false,.r (L 2 hs.length (pc hs)),.b true,.r (D O x)] [2,3,4,5,6] (T n1 (T c1 (T n2 (T c2 (T n3 a0))))))
theorem rX(o:Bool)(fs:List Rn)(r:Rn)(e:Int)(t:Rn)(f:Int)(gs:List Rn)(p:Rn)(c:Int)(q:Rn)(d:Int)(u:Rn)(a:Int)(w:Rn)(b:Int)(hs:List Rn)(c_uw:Int)(c1:A9i (c_uw>=0)=false)(c2:A9i ((hs.length:Int)>1)=false)(n1:RQ 55 [j u a,j w b] (D O c_uw))(n2:RQ 135 [Y pc fs,Y pc gs] (L 2 hs.length (pc hs))):Ar I0 (EJ o fs r e t f gs p c q d u a w b) .ret (EJ false fs r e t f gs p c q d u a w b):=(G AM 400 [.r (D O c_uw),.b false,.r (L 2 hs.length (pc hs)),.b false] [2,3,4,5,6] (T n1 (T c1 (T n2 (T c2 a0)))))
def Jy(o:Bool)(fs:List Rn)(r:Rn)(e:Int)(t:Rn)(f:Int)(gs:List Rn)(p:Rn)(c:Int)(q:Rn)(d:Int)(u:Rn)(a:Int)(w:Rn)(b:Int):Al:=(Ac 2 (M4 fs r e t f::(M4 gs p c q d::(A9j (F o)::(A9s [F u.1,H u.2.length (W u.2),D O a]::(A9s [F w.1,H w.2.length (W w.2),D O b]::(Ac 54 [])))))))
theorem Agk(o:Bool)(fs:List Rn)(r:Rn)(e:Int)(t:Rn)(f:Int)(gs:List Rn)(p:Rn)(c:Int)(q:Rn)(d:Int)(u:Rn)(a:Int)(w:Rn)(b:Int)(z:Bool)(c_pu c_qw:Int)(c1:A9i (c_pu>0)=true)(c2:A9i (c_qw<0)=true)(n1:RQ 55 [j p c,j u a] (D O c_pu))(n2:RQ 55 [j q d,j w b] (D O c_qw))(hl3:Ar I0 (EJ o fs r e t f gs p c q d p c q d) .ret (EJ z fs r e t f gs p c q d p c q d)):Ar Pb (Jy o fs r e t f gs p c q d u a w b) .ret (Jy z fs r e t f gs p c q d p c q d):=(A9m (C1.seq (G AM 400 [.r (D O c_pu),.b true,.r (D O c_qw),.b true] [2,3,4,5,6] (T n1 (T c1 (T n2 (T c2 a0))))) hl3))
theorem Agl(o:Bool)(fs:List Rn)(r:Rn)(e:Int)(t:Rn)(f:Int)(gs:List Rn)(p:Rn)(c:Int)(q:Rn)(d:Int)(u:Rn)(a:Int)(w:Rn)(b:Int)(z:Bool)(c_pu c_qw:Int)(c1:A9i (c_pu>0)=true)(c2:A9i (c_qw<0)=false)(n1:RQ 55 [j p c,j u a] (D O c_pu))(n2:RQ 55 [j q d,j w b] (D O c_qw))(hl3:Ar I0 (EJ o fs r e t f gs p c q d p c w b) .ret (EJ z fs r e t f gs p c q d p c w b)):Ar Pb (Jy o fs r e t f gs p c q d u a w b) .ret (Jy z fs r e t f gs p c q d p c w b):=(A9m (C1.seq (G AM 400 [.r (D O c_pu),.b true,.r (D O c_qw),.b false] [2,3,4,5,6] (T n1 (T c1 (T n2 (T c2 a0))))) hl3))
theorem Agm(o:Bool)(fs:List Rn)(r:Rn)(e:Int)(t:Rn)(f:Int)(gs:List Rn)(p:Rn)(c:Int)(q:Rn)(d:Int)(u:Rn)(a:Int)(w:Rn)(b:Int)(z:Bool)(c_pu c_qw:Int)(c1:A9i (c_pu>0)=false)(c2:A9i (c_qw<0)=true)(n1:RQ 55 [j p c,j u a] (D O c_pu))(n2:RQ 55 [j q d,j w b] (D O c_qw))(hl3:Ar I0 (EJ o fs r e t f gs p c q d u a q d) .ret (EJ z fs r e t f gs p c q d u a q d)):Ar Pb (Jy o fs r e t f gs p c q d u a w b) .ret (Jy z fs r e t f gs p c q d u a q d):=(A9m (C1.seq (G AM 400 [.r (D O c_pu),.b false,.r (D O c_qw),.b true] [2,3,4,5,6] (T n1 (T c1 (T n2 (T c2 a0))))) hl3))
theorem Agn(o:Bool)(fs:List Rn)(r:Rn)(e:Int)(t:Rn)(f:Int)(gs:List Rn)(p:Rn)(c:Int)(q:Rn)(d:Int)(u:Rn)(a:Int)(w:Rn)(b:Int)(z:Bool)(c_pu c_qw:Int)(c1:A9i (c_pu>0)=false)(c2:A9i (c_qw<0)=false)(n1:RQ 55 [j p c,j u a] (D O c_pu))(n2:RQ 55 [j q d,j w b] (D O c_qw))(hl3:Ar I0 (EJ o fs r e t f gs p c q d u a w b) .ret (EJ z fs r e t f gs p c q d u a w b)):Ar Pb (Jy o fs r e t f gs p c q d u a w b) .ret (Jy z fs r e t f gs p c q d u a w b):=(A9m (C1.seq (G AM 400 [.r (D O c_pu),.b false,.r (D O c_qw),.b false] [2,3,4,5,6] (T n1 (T c1 (T n2 (T c2 a0))))) hl3))
theorem Pz(fs:List Rn)(r t:Rn)(e f:Int)(gs:List Rn)(p q:Rn)(c d:Int)(z:Bool)(b1 b2:Bool)(u w:Rn)(a b:Int)(c1:(b1)=false)(c2:(b2)=false)(n1:RQ 125 [B7 fs r e t f] (F b1))(n2:RQ 125 [B7 gs p c q d] (F b2))(hl3:Ar Pb (Jy false fs r e t f gs p c q d r e t f) .ret (Jy z fs r e t f gs p c q d u a w b)):RQ 124 [B7 fs r e t f,B7 gs p c q d] (F z):=A9g V3 (Ac 2 (M4 fs r e t f::(M4 gs p c q d::(A9j (F z)::(A9s [F u.1,H u.2.length (W u.2),D O a]::(A9s [F w.1,H w.2.length (W w.2),D O b]::(Ac 54 []))))))) (A9m (A9m (C1.seq (G AM 400 [.r (F b1),.b false,.r (F b2),.b false] [2,3,4,5,6] (T n1 (T c1 (T n2 (T c2 a0))))) hl3)))
def Qd(o:Bool)(l:List Rt)(l2:List Rt)(i:Int)(j:Int):Al:=(Ac 4 (A9j (F o)::(A9j (H l.length (Fu l))::(Ac 1 (A9j (H l2.length (Fu l2))::(Ac 1 (A9j (D O i)::(A9j (D O j)::(Ac 116 [])))))))))
theorem A4g(o:Bool)(l:List Rt)(l2:List Rt)(i:Int)(j:Int)(gs hs:List Rn)(p q1 p2 q2:Rn)(c d u2 v2 z z2:Int)(c1:(z != z)=false)(c2:A9i (j<(l2.length:Int))=true)(c3:(z2 != (I O (0-z)))=false)(n1:0<=i/\i<(l.length:Int))(n2:0<=j/\j<(l2.length:Int))(n3:RQ 23 [B7 ((l.getD (A i) s).fs) ((l.getD (A i) s).r) ((l.getD (A i) s).e) ((l.getD (A i) s).t) ((l.getD (A i) s).f),B7 ((l2.getD (A j) s).fs) ((l2.getD (A j) s).r) ((l2.getD (A j) s).e) ((l2.getD (A j) s).t) ((l2.getD (A j) s).f)] (Ax [D O z,D O 0]))(n4:RQ 23 [B7 ((l2.getD (A j) s).fs) ((l2.getD (A j) s).r) ((l2.getD (A j) s).e) ((l2.getD (A j) s).t) ((l2.getD (A j) s).f),B7 ((l.getD (A i) s).fs) ((l.getD (A i) s).r) ((l.getD (A i) s).e) ((l.getD (A i) s).t) ((l.getD (A i) s).f)] (Ax [D O z2,D O 0]))(n5:RQ 20 [B7 ((l.getD (A i) s).fs) ((l.getD (A i) s).r) ((l.getD (A i) s).e) ((l.getD (A i) s).t) ((l.getD (A i) s).f)] (B7 gs p c q1 d))(n6:RQ 20 [B7 ((l2.getD (A j) s).fs) ((l2.getD (A j) s).r) ((l2.getD (A j) s).e) ((l2.getD (A j) s).t) ((l2.getD (A j) s).f)] (B7 hs p2 u2 q2 v2))(n7:RQ 19 [B7 gs p c q1 d,B7 hs p2 u2 q2 v2] (D O z)):Ar Yk (Qd o l l2 i j) .norm (Qd o l l2 i (I O (j+1))):=(G AM 400 [.b true,.v (B7 ((l.getD (A i) s).fs) ((l.getD (A i) s).r) ((l.getD (A i) s).e) ((l.getD (A i) s).t) ((l.getD (A i) s).f)),.v (B7 ((l2.getD (A j) s).fs) ((l2.getD (A j) s).r) ((l2.getD (A j) s).e) ((l2.getD (A j) s).t) ((l2.getD (A j) s).f)),.r (Ax [D O z,D O 0]),.v (B7 ((l2.getD (A j) s).fs) ((l2.getD (A j) s).r) ((l2.getD (A j) s).e) ((l2.getD (A j) s).t) ((l2.getD (A j) s).f)),.v (B7 ((l.getD (A i) s).fs) ((l.getD (A i) s).r) ((l.getD (A i) s).e) ((l.getD (A i) s).t) ((l.getD (A i) s).f)),.r (Ax [D O z2,D O 0]),.v (B7 ((l.getD (A i) s).fs) ((l.getD (A i) s).r) ((l.getD (A i) s).e) ((l.getD (A i) s).t) ((l.getD (A i) s).f)),.r (B7 gs p c q1 d),.v (B7 ((l2.getD (A j) s).fs) ((l2.getD (A j) s).r) ((l2.getD (A j) s).e) ((l2.getD (A j) s).t) ((l2.getD (A j) s).f)),.r (B7 hs p2 u2 q2 v2),.r (D O z),.b false,.b false,.b false,.b false] [4,5,7,9,10] (T c2 (T n1 (T (If n1) (T n2 (T (If n2) (T n3 (T n2 (T (If n2) (T n1 (T (If n1) (T n4 (T n1 (T (If n1) (T n5 (T n2 (T (If n2) (T n6 (T n7 (T ES (T ES (T c1 (T c3 a0)))))))))))))))))))))))
theorem A4h(o:Bool)(l:List Rt)(l2:List Rt)(i:Int)(j:Int)(c2:A9i (j<(l2.length:Int))=false):Ar Yk (Qd o l l2 i j) (.exit 2) (Qd o l l2 i j):=(G AM 400 [.b false] [4,5,7,9,10] (T c2 a0))
def XX(o:Bool)(l:List Rt)(l2:List Rt)(i:Int):Al:=(Ac 4 (A9j (F o)::(A9j (H l.length (Fu l))::(Ac 1 (A9j (H l2.length (Fu l2))::(Ac 1 (A9j (D O i)::(Ac 117 []))))))))
theorem A8o(o:Bool)(l:List Rt)(l2:List Rt)(i:Int)(j:Int)(c1:A9i (i<(l.length:Int))=true)(hl1:Ar (.loop Yk) (Qd o l l2 i 0) (.exit 2) (Qd o l l2 i j)):Ar wB (XX o l l2 i) .norm (XX o l l2 (I O (i+1))):=(C1.seq (G (t:=(Ac 4 (A9j (F o)::(A9j (H l.length (Fu l))::(Ac 1 (A9j (H l2.length (Fu l2))::(Ac 1 (m i::(Ac 54 (A9j (H l.length (Fu l))::(Ac 62 []))))))))))) AM 400 [.b true] [4,5,7,9,64] (T c1 a0)) (C1.seq (B_ (C1.seq (G AM 400 [] [4,5,7,9,10] a0) (C1.block hl1))) (G AM 400 [] [4,5,7,9] a0)))
theorem A8p(o:Bool)(l:List Rt)(l2:List Rt)(i:Int)(c1:A9i (i<(l.length:Int))=false):Ar wB (XX o l l2 i) (.exit 0) (XX o l l2 i):=(A8 (G AM 400 [.b false] [4,5,7,9] (T c1 a0)) (by nofun))
theorem Awz(rs qs:List Rn)(c1:A9i ((rs.length:Int)>6)=true)(n1:RQ 12 [] (F true)):RQ 4 [Y pc rs,Y pc qs] (F true):=A9g UZ (Ac 4 (A9j (F true)::(Ac 122 []))) (A9m (A9m (A9m (A9m (A9m (A9t (A8 (G AM 400 [.r (F true),.b false,.b true,.b true,.b true,.b true,.b true,.b true,.r (F true)] [4] (T n1 (T ES (T c1 (T Hw (T Hw (T Hw (T Hw (T Hw (T n1 a0)))))))))) (by nofun))))))))
theorem Axa(rs qs:List Rn)(c1:A9i ((rs.length:Int)>6)=false)(c2:A9i ((qs.length:Int)>6)=true)(n1:RQ 12 [] (F true)):RQ 4 [Y pc rs,Y pc qs] (F true):=A9g UZ (Ac 4 (A9j (F true)::(Ac 122 []))) (A9m (A9m (A9m (A9m (A9m (A9t (A8 (G AM 400 [.r (F true),.b false,.b false,.b true,.b true,.b true,.b true,.b true,.r (F true)] [4] (T n1 (T ES (T c1 (T c2 (T Hw (T Hw (T Hw (T Hw (T n1 a0)))))))))) (by nofun))))))))
theorem Axb(rs qs:List Rn)(d:Int)(b1 b2:Bool)(c1:A9i ((rs.length:Int)>6)=false)(c2:A9i ((qs.length:Int)>6)=false)(c3:(b1)=true)(c4:(b2)=true)(c5:A9i (d<1)=true)(n1:RQ 12 [] (F true))(n2:RQ 13 [Y pc rs] (F b1))(n3:RQ 13 [Y pc qs] (F b2))(n4:RQ 21 [Y pc rs] (D O d)):RQ 4 [Y pc rs,Y pc qs] (F true):=A9g UZ (Ac 4 (A9j (F true)::(Ac 122 []))) (A9m (A9m (A9m (A9m (A9m (A9t (A8 (G AM 400 [.r (F true),.b false,.b false,.b false,.r (F b1),.b false,.r (F b2),.b false,.r (D O d),.b true,.b true,.r (F true)] [4] (T n1 (T ES (T c1 (T c2 (T n2 (T (Hx c3) (T n3 (T (Hx c4) (T n4 (T c5 (T Hw (T n1 a0))))))))))))) (by nofun))))))))
theorem Axc(rs qs:List Rn)(d e:Int)(b1 b2:Bool)(c1:A9i ((rs.length:Int)>6)=false)(c2:A9i ((qs.length:Int)>6)=false)(c3:(b1)=true)(c4:(b2)=true)(c5:A9i (d<1)=false)(c6:A9i (e<1)=true)(n1:RQ 12 [] (F true))(n2:RQ 13 [Y pc rs] (F b1))(n3:RQ 13 [Y pc qs] (F b2))(n4:RQ 21 [Y pc rs] (D O d))(n5:RQ 21 [Y pc qs] (D O e)):RQ 4 [Y pc rs,Y pc qs] (F true):=A9g UZ (Ac 4 (A9j (F true)::(Ac 122 []))) (A9m (A9m (A9m (A9m (A9m (A9t (A8 (G AM 400 [.r (F true),.b false,.b false,.b false,.r (F b1),.b false,.r (F b2),.b false,.r (D O d),.b false,.r (D O e),.b true,.r (F true)] [4] (T n1 (T ES (T c1 (T c2 (T n2 (T (Hx c3) (T n3 (T (Hx c4) (T n4 (T c5 (T n5 (T c6 (T n1 a0)))))))))))))) (by nofun))))))))
theorem Axd(rs qs:List Rn)(d e i:Int)(l l2:List Rt)(b1 b2:Bool)(c1:A9i ((rs.length:Int)>6)=false)(c2:A9i ((qs.length:Int)>6)=false)(c3:(b1)=true)(c4:(b2)=true)(c5:A9i (d<1)=false)(c6:A9i (e<1)=false)(n1:RQ 12 [] (F true))(n2:RQ 13 [Y pc rs] (F b1))(n3:RQ 13 [Y pc qs] (F b2))(n4:RQ 21 [Y pc rs] (D O d))(n5:RQ 21 [Y pc qs] (D O e))(n6:RQ 22 [Y pc rs] (Ax [H l.length (Fu l),F true]))(n7:RQ 22 [Y pc qs] (Ax [H l2.length (Fu l2),F true]))(hl8:Ar (.loop wB) (XX false l l2 0) (.exit 0) (XX false l l2 i)):RQ 4 [Y pc rs,Y pc qs] (F true):=A9g UZ (Ac 4 (A9j (F true)::(Ac 122 []))) (A9m (A9m (A9m (A9m (A9m (A9t (C1.seq (G AM 400 [.r (F true),.b false,.b false,.b false,.r (F b1),.b false,.r (F b2),.b false,.r (D O d),.b false,.r (D O e),.b false,.r (Ax [H l.length (Fu l),F true]),.r (Ax [H l2.length (Fu l2),F true]),.b false,.b false] [4,5,7,9] (T n1 (T ES (T c1 (T c2 (T n2 (T (Hx c3) (T n3 (T (Hx c4) (T n4 (T c5 (T n5 (T c6 (T n6 (T n7 (T ES (T ES a0))))))))))))))))) (C1.seq (C1.block hl8) (G AM 400 [] [4] a0)))))))))
theorem Axe(rs qs:List Rn)(b1 b2:Bool)(c1:A9i ((rs.length:Int)>6)=false)(c2:A9i ((qs.length:Int)>6)=false)(c3:(b1)=true)(c4:(b2)=false)(n1:RQ 12 [] (F true))(n2:RQ 13 [Y pc rs] (F b1))(n3:RQ 13 [Y pc qs] (F b2)):RQ 4 [Y pc rs,Y pc qs] (F true):=A9g UZ (Ac 4 (A9j (F true)::(Ac 122 []))) (A9m (A9m (A9m (A9m (A9m (A9t (A8 (G AM 400 [.r (F true),.b false,.b false,.b false,.r (F b1),.b false,.r (F b2),.b true,.b true,.b true,.r (F true)] [4] (T n1 (T ES (T c1 (T c2 (T n2 (T (Hx c3) (T n3 (T (mE c4) (T Hw (T Hw (T n1 a0)))))))))))) (by nofun))))))))
theorem Axf(rs qs:List Rn)(b1:Bool)(c1:A9i ((rs.length:Int)>6)=false)(c2:A9i ((qs.length:Int)>6)=false)(c3:(b1)=false)(n1:RQ 12 [] (F true))(n2:RQ 13 [Y pc rs] (F b1)):RQ 4 [Y pc rs,Y pc qs] (F true):=A9g UZ (Ac 4 (A9j (F true)::(Ac 122 []))) (A9m (A9m (A9m (A9m (A9m (A9t (A8 (G AM 400 [.r (F true),.b false,.b false,.b false,.r (F b1),.b true,.b true,.b true,.b true,.r (F true)] [4] (T n1 (T ES (T c1 (T c2 (T n2 (T (mE c3) (T Hw (T Hw (T Hw (T n1 a0))))))))))) (by nofun))))))))
end Go.Proofs.YtajompaehjkgkaaGreat
