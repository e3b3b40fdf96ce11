/- Texts of the proof of RootSigns: part 9 of 13. -/
import Derived.KernelRfl
import Derived.Test.YtajompaehjkgkaaGreatRsg8
namespace Go.Proofs.YtajompaehjkgkaaGreat
open Go.Ai
set_option maxRecDepth 100000
open Bool renaming and_eq_true->Ad,false_and->Kt,not_eq_true'->Em,true_and->Oy
open Decidable renaming decide->B
open Go.Ai.AV renaming agg->A6r,bool->A6m,fresh->A6p,int->A6l,sl->A6n,tup->A6t
open Go.Ai.Reg renaming val->A6o
open Go.IntKind renaming i64->R,wrap->D
open Int renaming toNat->A,toNat_natCast->F
open List renaming all_eq_true->BQ,getD_eq_getElem?_getD->Z,getElem?_eq_getElem->Af,getElem_mem->Ds,mem_iff_getElem->Jq
open Nat renaming le_refl->An,zero_add->Ch,zero_le->Bv
def K2(fs:List Rn)(r:Rn)(e:Int)(t:Rn)(f:Int)(ts:List Rn)(ls:List (List Rn)):Ak:=(Q 1 (A6o (sL pc ts)::(rtB fs r e t f::(Q 3 (A6o (sL pp ls)::(Q 46 []))))))
theorem A1g(fs:List Rn)(r:Rn)(e:Int)(t:Rn)(f:Int)(ts:List Rn)(ls:List (List Rn))(x y:Int)(fs1:List Rn)(r1 t1:Rn)(e1 f1:Int)(c1:(x != y)=true)(n1:H I 68 [sL pp ls,A6 r e] (A6l R x))(n2:H I 68 [sL pp ls,A6 t f] (A6l R y))(n3:H I 82 [BW fs r e t f] (BW fs1 r1 e1 t1 f1)):W I QB (K2 fs r e t f ts ls) .norm (K2 fs1 r1 e1 t1 f1 ts ls):=(C Br 400 [.r (A6l R x),.r (A6l R y),.b true,.r (BW fs1 r1 e1 t1 f1)] [1,2,6] (P n1 (P n2 (P c1 (P n3 a0)))))
theorem A1h(fs:List Rn)(r:Rn)(e:Int)(t:Rn)(f:Int)(ts:List Rn)(ls:List (List Rn))(x y:Int)(c1:(x != y)=false)(n1:H I 68 [sL pp ls,A6 r e] (A6l R x))(n2:H I 68 [sL pp ls,A6 t f] (A6l R y)):W I QB (K2 fs r e t f ts ls) (.exit 0) (K2 fs r e t f ts ls):=(C Br 400 [.r (A6l R x),.r (A6l R y),.b false] [1,2,6] (P n1 (P n2 (P c1 a0))))
theorem fL(fs:List Rn)(r t:Rn)(e f:Int)(qs ts:List Rn)(b1:Bool)(s:Int)(c1:(b1)=false)(c2:B ((ts.length:Int)<2)=true)(n1:H I 66 [sL pc qs] (A6p 2 ts.length (pc ts)))(n2:H I 125 [BW fs r e t f] (A6m b1))(n3:H I 65 [sL pc ts,A6 r e] (A6l R s)):H I 85 [BW fs r e t f,sL pc qs] (A6l R s):=X (fn:=NC) (s:=(Q 4 (A6o (A6l R s)::(Q 48 [])))) (ex := .ret) rfl rfl (L (L (L (L (L (p (C Br 400 [.r (A6p 2 ts.length (pc ts)),.r (A6m b1),.b false,.b true,.r (A6l R s)] [4] (P n1 (P n2 (P c1 (P c2 (P n3 a0)))))) (by nofun))))))) (by nofun) rfl
theorem fM(fs:List Rn)(r t:Rn)(e f:Int)(qs ts hs:List Rn)(b1:Bool)(n:Int)(c1:(b1)=false)(c2:B ((ts.length:Int)<2)=false)(c3:B ((hs.length:Int)>1)=true)(c4:B (n>0)=true)(n1:H I 66 [sL pc qs] (A6p 2 ts.length (pc ts)))(n2:H I 125 [BW fs r e t f] (A6m b1))(n3:H I 135 [sL pc fs,sL pc ts] (sL pc hs))(n4:H I 136 [sL pc hs,A6 r e,A6 t f] (A6l R n)):H I 85 [BW fs r e t f,sL pc qs] (A6l R 0):=X (fn:=NC) (s:=(Q 4 (A6o (A6l R 0)::(Q 48 [])))) (ex := .ret) rfl rfl (L (L (L (L (L (p (C Br 400 [.r (A6p 2 ts.length (pc ts)),.r (A6m b1),.b false,.b false,.r (sL pc hs),.b true,.r (A6l R n),.b true] [4] (P n1 (P n2 (P c1 (P c2 (P n3 (P c3 (P n4 (P c4 a0))))))))) (by nofun))))))) (by nofun) rfl
theorem fN(fs:List Rn)(r t:Rn)(e f:Int)(qs ts hs:List Rn)(ls:List (List Rn))(b1:Bool)(s n e1 f1:Int)(fs1:List Rn)(r1 t1:Rn)(c1:(b1)=false)(c2:B ((ts.length:Int)<2)=false)(c3:B ((hs.length:Int)>1)=true)(c4:B (n>0)=false)(n1:H I 66 [sL pc qs] (A6p 2 ts.length (pc ts)))(n2:H I 125 [BW fs r e t f] (A6m b1))(n3:H I 135 [sL pc fs,sL pc ts] (sL pc hs))(n4:H I 136 [sL pc hs,A6 r e,A6 t f] (A6l R n))(n5:H I 67 [sL pc ts] (A6p 1 ls.length (pp ls)))(hl6:W I (.loop QB) (K2 fs r e t f ts ls) (.exit 0) (K2 fs1 r1 e1 t1 f1 ts ls))(n7:H I 65 [sL pc ts,A6 t1 f1] (A6l R s)):H I 85 [BW fs r e t f,sL pc qs] (A6l R s):=X (fn:=NC) (s:=(Q 4 (A6o (A6l R s)::(Q 48 [])))) (ex := .ret) rfl rfl (L (L (L (L (L (W.seq (C Br 400 [.r (A6p 2 ts.length (pc ts)),.r (A6m b1),.b false,.b false,.r (sL pc hs),.b true,.r (A6l R n),.b false,.r (A6p 1 ls.length (pp ls))] [1,2,6] (P n1 (P n2 (P c1 (P c2 (P n3 (P c3 (P n4 (P c4 (P n5 a0)))))))))) (W.seq (W.block hl6) (C Br 400 [.r (A6l R s)] [4] (P n7 a0))))))))) (by nofun) rfl
theorem fO(fs:List Rn)(r t:Rn)(e f:Int)(qs ts hs:List Rn)(ls:List (List Rn))(b1:Bool)(s e1 f1:Int)(fs1:List Rn)(r1 t1:Rn)(c1:(b1)=false)(c2:B ((ts.length:Int)<2)=false)(c3:B ((hs.length:Int)>1)=false)(n1:H I 66 [sL pc qs] (A6p 2 ts.length (pc ts)))(n2:H I 125 [BW fs r e t f] (A6m b1))(n3:H I 135 [sL pc fs,sL pc ts] (sL pc hs))(n4:H I 67 [sL pc ts] (A6p 1 ls.length (pp ls)))(hl5:W I (.loop QB) (K2 fs r e t f ts ls) (.exit 0) (K2 fs1 r1 e1 t1 f1 ts ls))(n6:H I 65 [sL pc ts,A6 t1 f1] (A6l R s)):H I 85 [BW fs r e t f,sL pc qs] (A6l R s):=X (fn:=NC) (s:=(Q 4 (A6o (A6l R s)::(Q 48 [])))) (ex := .ret) rfl rfl (L (L (L (L (L (W.seq (C Br 400 [.r (A6p 2 ts.length (pc ts)),.r (A6m b1),.b false,.b false,.r (sL pc hs),.b false,.b false,.r (A6p 1 ls.length (pp ls))] [1,2,6] (P n1 (P n2 (P c1 (P c2 (P n3 (P c3 (P FA (P n4 a0))))))))) (W.seq (W.block hl5) (C Br 400 [.r (A6l R s)] [4] (P n6 a0))))))))) (by nofun) rfl
theorem fP(fs:List Rn)(r t:Rn)(e f:Int)(qs ts hs:List Rn)(b1:Bool)(n:Int)(c1:(b1)=false)(c2:B ((ts.length:Int)<2)=false)(c3:B ((hs.length:Int)>1)=true)(c4:B (n>0)=true)(n1:H I 66 [sL pc qs] (A6p 2 ts.length (pc ts)))(n2:H I 125 [BW fs r e t f] (A6m b1))(n3:H I 135 [sL pc fs,sL pc ts] (A6p 2 hs.length (pc hs)))(n4:H I 136 [sL pc hs,A6 r e,A6 t f] (A6l R n)):H I 85 [BW fs r e t f,sL pc qs] (A6l R 0):=X (fn:=NC) (s:=(Q 4 (A6o (A6l R 0)::(Q 48 [])))) (ex := .ret) rfl rfl (L (L (L (L (L (p (C Br 400 [.r (A6p 2 ts.length (pc ts)),.r (A6m b1),.b false,.b false,.r (A6p 2 hs.length (pc hs)),.b true,.r (A6l R n),.b true] [4] (P n1 (P n2 (P c1 (P c2 (P n3 (P c3 (P n4 (P c4 a0))))))))) (by nofun))))))) (by nofun) rfl
theorem fQ(fs:List Rn)(r t:Rn)(e f:Int)(qs ts hs:List Rn)(ls:List (List Rn))(b1:Bool)(s n e1 f1:Int)(fs1:List Rn)(r1 t1:Rn)(c1:(b1)=false)(c2:B ((ts.length:Int)<2)=false)(c3:B ((hs.length:Int)>1)=true)(c4:B (n>0)=false)(n1:H I 66 [sL pc qs] (A6p 2 ts.length (pc ts)))(n2:H I 125 [BW fs r e t f] (A6m b1))(n3:H I 135 [sL pc fs,sL pc ts] (A6p 2 hs.length (pc hs)))(n4:H I 136 [sL pc hs,A6 r e,A6 t f] (A6l R n))(n5:H I 67 [sL pc ts] (A6p 1 ls.length (pp ls)))(hl6:W I (.loop QB) (K2 fs r e t f ts ls) (.exit 0) (K2 fs1 r1 e1 t1 f1 ts ls))(n7:H I 65 [sL pc ts,A6 t1 f1] (A6l R s)):H I 85 [BW fs r e t f,sL pc qs] (A6l R s):=X (fn:=NC) (s:=(Q 4 (A6o (A6l R s)::(Q 48 [])))) (ex := .ret) rfl rfl (L (L (L (L (L (W.seq (C Br 400 [.r (A6p 2 ts.length (pc ts)),.r (A6m b1),.b false,.b false,.r (A6p 2 hs.length (pc hs)),.b true,.r (A6l R n),.b false,.r (A6p 1 ls.length (pp ls))] [1,2,6] (P n1 (P n2 (P c1 (P c2 (P n3 (P c3 (P n4 (P c4 (P n5 a0)))))))))) (W.seq (W.block hl6) (C Br 400 [.r (A6l R s)] [4] (P n7 a0))))))))) (by nofun) rfl
theorem fR(fs:List Rn)(r t:Rn)(e f:Int)(qs ts hs:List Rn)(ls:List (List Rn))(b1:Bool)(s e1 f1:Int)(fs1:List Rn)(r1 t1:Rn)(c1:(b1)=false)(c2:B ((ts.length:Int)<2)=false)(c3:B ((hs.length:Int)>1)=false)(n1:H I 66 [sL pc qs] (A6p 2 ts.length (pc ts)))(n2:H I 125 [BW fs r e t f] (A6m b1))(n3:H I 135 [sL pc fs,sL pc ts] (A6p 2 hs.length (pc hs)))(n4:H I 67 [sL pc ts] (A6p 1 ls.length (pp ls)))(hl5:W I (.loop QB) (K2 fs r e t f ts ls) (.exit 0) (K2 fs1 r1 e1 t1 f1 ts ls))(n6:H I 65 [sL pc ts,A6 t1 f1] (A6l R s)):H I 85 [BW fs r e t f,sL pc qs] (A6l R s):=X (fn:=NC) (s:=(Q 4 (A6o (A6l R s)::(Q 48 [])))) (ex := .ret) rfl rfl (L (L (L (L (L (W.seq (C Br 400 [.r (A6p 2 ts.length (pc ts)),.r (A6m b1),.b false,.b false,.r (A6p 2 hs.length (pc hs)),.b false,.b false,.r (A6p 1 ls.length (pp ls))] [1,2,6] (P n1 (P n2 (P c1 (P c2 (P n3 (P c3 (P FA (P n4 a0))))))))) (W.seq (W.block hl5) (C Br 400 [.r (A6l R s)] [4] (P n6 a0))))))))) (by nofun) rfl
theorem Ado(fs:List Rn)(r t:Rn)(e f:Int)(qs fs1:List Rn)(z:Int)(v1 b:Bool)(c1:(v1)=true)(c2:(b)=true)(n1:H I 18 [BW fs r e t f] (A6m v1))(n2:H I 52 [sL pc qs] (A6m b))(n3:H I 75 [BW fs r e t f] (BW fs1 r e t f))(n4:H I 85 [BW fs1 r e t f,sL pc qs] (A6l R z)):H I 34 [BW fs r e t f,sL pc qs] (A6t [A6l R z,A6l R 0]):=i (fn:=aH) Br rfl 400 rfl [.r (A6m v1),.b false,.r (A6m b),.b false,.r (BW fs1 r e t f),.r (A6l R z)] (P n1 (P (H4 c1) (P n2 (P (H4 c2) (P n3 (P n4 a0))))))
theorem Adp(fs:List Rn)(r t:Rn)(e f:Int)(gs:List Rn)(c1:B ((gs.length:Int)<2)=true):H I 69 [BW fs r e t f,sL pc gs] (A6m false):=i (fn:=X5) Br rfl 400 rfl [.b true] (P c1 a0)
theorem Adq(fs:List Rn)(r t:Rn)(e f:Int)(gs:List Rn)(c n:Int)(c1:B ((gs.length:Int)<2)=false)(c2:(c==0)=false)(n1:H I 33 [A6 r e,A6 t f] (A6l R c))(n2:H I 63 [sL pc gs,A6 r e,A6 t f] (A6l R n)):H I 69 [BW fs r e t f,sL pc gs] (A6m (n==1)):=i (fn:=X5) Br rfl 400 rfl [.b false,.r (A6l R c),.b false,.r (A6l R n)] (P c1 (P n1 (P c2 (P n2 a0))))
def LX(fs:List Rn)(r:Rn)(e:Int)(t:Rn)(f:Int)(ts:List Rn):Ak:=(Q 2 (rtB fs r e t f::(Q 2 (A6o (sL pc ts)::(Q 44 [])))))
theorem A1i(fs:List Rn)(r:Rn)(e:Int)(t:Rn)(f:Int)(ts:List Rn)(c n:Int)(fs1:List Rn)(r1 t1:Rn)(e1 f1:Int)(c1:B (c<0)=true)(c2:B ((ts.length:Int)>1)=true)(c3:B (n>0)=true)(n1:H I 33 [A6 r e,A6 t f] (A6l R c))(n2:H I 63 [sL pc ts,A6 r e,A6 t f] (A6l R n))(n3:H I 72 [BW fs r e t f] (BW fs1 r1 e1 t1 f1)):W I SO (LX fs r e t f ts) .norm (LX fs1 r1 e1 t1 f1 ts):=(C Br 400 [.r (A6l R c),.b true,.b true,.r (A6l R n),.b true,.r (BW fs1 r1 e1 t1 f1)] [2,5] (P n1 (P c1 (P c2 (P n2 (P c3 (P n3 a0)))))))
theorem A1j(fs:List Rn)(r:Rn)(e:Int)(t:Rn)(f:Int)(ts:List Rn)(c n:Int)(c1:B (c<0)=true)(c2:B ((ts.length:Int)>1)=true)(c3:B (n>0)=false)(n1:H I 33 [A6 r e,A6 t f] (A6l R c))(n2:H I 63 [sL pc ts,A6 r e,A6 t f] (A6l R n)):W I SO (LX fs r e t f ts) (.exit 0) (LX fs r e t f ts):=(C Br 400 [.r (A6l R c),.b true,.b true,.r (A6l R n),.b false] [2,5] (P n1 (P c1 (P c2 (P n2 (P c3 a0))))))
theorem A1k(fs:List Rn)(r:Rn)(e:Int)(t:Rn)(f:Int)(ts:List Rn)(c:Int)(c1:B (c<0)=true)(c2:B ((ts.length:Int)>1)=false)(n1:H I 33 [A6 r e,A6 t f] (A6l R c)):W I SO (LX fs r e t f ts) (.exit 0) (LX fs r e t f ts):=(C Br 400 [.r (A6l R c),.b true,.b false,.b false] [2,5] (P n1 (P c1 (P c2 (P FA a0)))))
theorem fS(fs:List Rn)(r t:Rn)(e f:Int)(qs ts:List Rn)(c1:((ts.length:Int)==0)=true)(n1:H I 86 [sL pc qs] (A6p 2 ts.length (pc ts))):H I 35 [BW fs r e t f,sL pc qs] (A6l R 0):=X (fn:=QA) (s:=(Q 4 (A6o (A6l R 0)::(Q 45 [])))) (ex := .ret) rfl rfl (L (L (p (C Br 400 [.r (A6p 2 ts.length (pc ts)),.b true,.b true] [4] (P n1 (P c1 (P HY a0)))) (by nofun)))) (by nofun) rfl
theorem fT(fs:List Rn)(r t:Rn)(e f:Int)(qs ts hs:List Rn)(b1:Bool)(c1:((ts.length:Int)==0)=false)(c2:(b1)=true)(n1:H I 86 [sL pc qs] (A6p 2 ts.length (pc ts)))(n2:H I 70 [sL pc fs,sL pc ts] (sL pc hs))(n3:H I 69 [BW fs r e t f,sL pc hs] (A6m b1)):H I 35 [BW fs r e t f,sL pc qs] (A6l R 0):=X (fn:=QA) (s:=(Q 4 (A6o (A6l R 0)::(Q 45 [])))) (ex := .ret) rfl rfl (L (L (p (C Br 400 [.r (A6p 2 ts.length (pc ts)),.b false,.r (sL pc hs),.r (A6m b1),.b true] [4] (P n1 (P c1 (P n2 (P n3 (P c2 a0)))))) (by nofun)))) (by nofun) rfl
theorem Tx(fs:List Rn)(r t:Rn)(e f:Int)(qs ts hs:List Rn)(b1:Bool)(s v e1 f1:Int)(fs1:List Rn)(r1 t1:Rn)(c1:((ts.length:Int)==0)=false)(c2:(b1)=false)(n1:H I 86 [sL pc qs] (A6p 2 ts.length (pc ts)))(n2:H I 70 [sL pc fs,sL pc ts] (sL pc hs))(n3:H I 69 [BW fs r e t f,sL pc hs] (A6m b1))(hl4:W I (.loop SO) (LX fs r e t f ts) (.exit 0) (LX fs1 r1 e1 t1 f1 ts))(n5:H I 80 [sL pc ts,At t1,A6l R f1] (o v))(n6:H I 79 [o v] (A6l R s)):H I 35 [BW fs r e t f,sL pc qs] (A6l R s):=X (fn:=QA) (s:=(Q 4 (A6o (A6l R s)::(Q 45 [])))) (ex := .ret) rfl rfl (L (L (W.seq (C Br 400 [.r (A6p 2 ts.length (pc ts)),.b false,.r (sL pc hs),.r (A6m b1),.b false] [2,5] (P n1 (P c1 (P n2 (P n3 (P c2 a0)))))) (W.seq (W.block hl4) (C Br 400 [.r (o v),.r (A6l R s)] [4] (P n5 (P n6 a0))))))) (by nofun) rfl
theorem fU(fs:List Rn)(r t:Rn)(e f:Int)(qs ts hs:List Rn)(b1:Bool)(c1:((ts.length:Int)==0)=false)(c2:(b1)=true)(n1:H I 86 [sL pc qs] (A6p 2 ts.length (pc ts)))(n2:H I 70 [sL pc fs,sL pc ts] (A6p 2 hs.length (pc hs)))(n3:H I 69 [BW fs r e t f,sL pc hs] (A6m b1)):H I 35 [BW fs r e t f,sL pc qs] (A6l R 0):=X (fn:=QA) (s:=(Q 4 (A6o (A6l R 0)::(Q 45 [])))) (ex := .ret) rfl rfl (L (L (p (C Br 400 [.r (A6p 2 ts.length (pc ts)),.b false,.r (A6p 2 hs.length (pc hs)),.r (A6m b1),.b true] [4] (P n1 (P c1 (P n2 (P n3 (P c2 a0)))))) (by nofun)))) (by nofun) rfl
theorem Ty(fs:List Rn)(r t:Rn)(e f:Int)(qs ts hs:List Rn)(b1:Bool)(s v e1 f1:Int)(fs1:List Rn)(r1 t1:Rn)(c1:((ts.length:Int)==0)=false)(c2:(b1)=false)(n1:H I 86 [sL pc qs] (A6p 2 ts.length (pc ts)))(n2:H I 70 [sL pc fs,sL pc ts] (A6p 2 hs.length (pc hs)))(n3:H I 69 [BW fs r e t f,sL pc hs] (A6m b1))(hl4:W I (.loop SO) (LX fs r e t f ts) (.exit 0) (LX fs1 r1 e1 t1 f1 ts))(n5:H I 80 [sL pc ts,At t1,A6l R f1] (o v))(n6:H I 79 [o v] (A6l R s)):H I 35 [BW fs r e t f,sL pc qs] (A6l R s):=X (fn:=QA) (s:=(Q 4 (A6o (A6l R s)::(Q 45 [])))) (ex := .ret) rfl rfl (L (L (W.seq (C Br 400 [.r (A6p 2 ts.length (pc ts)),.b false,.r (A6p 2 hs.length (pc hs)),.r (A6m b1),.b false] [2,5] (P n1 (P c1 (P n2 (P n3 (P c2 a0)))))) (W.seq (W.block hl4) (C Br 400 [.r (o v),.r (A6l R s)] [4] (P n5 (P n6 a0))))))) (by nofun) rfl
def Xl(o:Bool)(rs:List Rn)(qs:List Rn)(l:List Rt)(i:Int):Ak:=(A6o (sL pc rs)::(A6o (sL pc qs)::(Q 2 (A6o (A6m o)::(A6o (A6n l.length (G4 l))::(Q 1 (A6o (A6l R i)::(Q 82 []))))))))
theorem A5q(o:Bool)(rs:List Rn)(qs:List Rn)(l:List Rt)(i:Int)(gs:List Rn)(p q1:Rn)(c d a:Int)(c1:(a != a)=false)(c2:B (i<(l.length:Int))=true)(n1:0<=i/\i<(l.length:Int))(n2:H I 34 [BW ((l.getD (A i) zR).fs) ((l.getD (A i) zR).r) ((l.getD (A i) zR).e) ((l.getD (A i) zR).t) ((l.getD (A i) zR).f),sL pc qs] (A6t [A6l R a,A6l R 0]))(n3:H I 34 [BW ((l.getD (A i) zR).fs) ((l.getD (A i) zR).r) ((l.getD (A i) zR).e) ((l.getD (A i) zR).t) ((l.getD (A i) zR).f),sL pc rs] (A6t [A6l R 0,A6l R 0]))(n4:H I 20 [BW ((l.getD (A i) zR).fs) ((l.getD (A i) zR).r) ((l.getD (A i) zR).e) ((l.getD (A i) zR).t) ((l.getD (A i) zR).f)] (BW gs p c q1 d))(n5:H I 35 [BW gs p c q1 d,sL pc qs] (A6l R a)):W I tW (Xl o rs qs l i) .norm (Xl o rs qs l (D R (i+1))):=(C Br 400 [.b true,.v (BW ((l.getD (A i) zR).fs) ((l.getD (A i) zR).r) ((l.getD (A i) zR).e) ((l.getD (A i) zR).t) ((l.getD (A i) zR).f)),.r (A6t [A6l R a,A6l R 0]),.v (BW ((l.getD (A i) zR).fs) ((l.getD (A i) zR).r) ((l.getD (A i) zR).e) ((l.getD (A i) zR).t) ((l.getD (A i) zR).f)),.r (A6t [A6l R 0,A6l R 0]),.b false,.b false,.b false,.v (BW ((l.getD (A i) zR).fs) ((l.getD (A i) zR).r) ((l.getD (A i) zR).e) ((l.getD (A i) zR).t) ((l.getD (A i) zR).f)),.r (BW gs p c q1 d),.r (A6l R a),.b false] [0,1,4,5,7] (P c2 (P n1 (P (MQ n1) (P n2 (P n1 (P (MQ n1) (P n3 (P FA (P FA (P FA (P n1 (P (MQ n1) (P n4 (P n5 (P c1 a0))))))))))))))))
theorem A5r(o:Bool)(rs:List Rn)(qs:List Rn)(l:List Rt)(i:Int)(c2:B (i<(l.length:Int))=false):W I tW (Xl o rs qs l i) (.exit 0) (Xl o rs qs l i):=(C Br 400 [.b false] [0,1,4,5,7] (P c2 a0))
theorem Aub(rs qs:List Rn)(c1:B ((rs.length:Int)>6)=true)(n1:H I 12 [] (A6m true)):H I 7 [sL pc rs,sL pc qs] (A6m true):=X (fn:=WL) (s:=(Q 4 (A6o (A6m true)::(Q 85 [])))) (ex := .ret) rfl rfl (L (L (L (L (q (p (C Br 400 [.r (A6m true),.b false,.b true,.b true,.b true,.b true,.b true,.r (A6m true)] [4] (P n1 (P FA (P c1 (P HY (P HY (P HY (P HY (P n1 a0))))))))) (by nofun))))))) (by nofun) rfl
theorem Auc(rs qs:List Rn)(c1:B ((rs.length:Int)>6)=false)(c2:B ((qs.length:Int)>6)=true)(n1:H I 12 [] (A6m true)):H I 7 [sL pc rs,sL pc qs] (A6m true):=X (fn:=WL) (s:=(Q 4 (A6o (A6m true)::(Q 85 [])))) (ex := .ret) rfl rfl (L (L (L (L (q (p (C Br 400 [.r (A6m true),.b false,.b false,.b true,.b true,.b true,.b true,.r (A6m true)] [4] (P n1 (P FA (P c1 (P c2 (P HY (P HY (P HY (P n1 a0))))))))) (by nofun))))))) (by nofun) rfl
theorem Aud(rs qs:List Rn)(d:Int)(b1 b2:Bool)(c1:B ((rs.length:Int)>6)=false)(c2:B ((qs.length:Int)>6)=false)(c3:(b1)=true)(c4:(b2)=true)(c5:B (d<1)=true)(n1:H I 12 [] (A6m true))(n2:H I 13 [sL pc rs] (A6m b1))(n3:H I 13 [sL pc qs] (A6m b2))(n4:H I 21 [sL pc rs] (A6l R d)):H I 7 [sL pc rs,sL pc qs] (A6m true):=X (fn:=WL) (s:=(Q 4 (A6o (A6m true)::(Q 85 [])))) (ex := .ret) rfl rfl (L (L (L (L (q (p (C Br 400 [.r (A6m true),.b false,.b false,.b false,.r (A6m b1),.b false,.r (A6m b2),.b false,.r (A6l R d),.b true,.r (A6m true)] [4] (P n1 (P FA (P c1 (P c2 (P n2 (P (H4 c3) (P n3 (P (H4 c4) (P n4 (P c5 (P n1 a0)))))))))))) (by nofun))))))) (by nofun) rfl
theorem Aue(rs qs:List Rn)(d i:Int)(l:List Rt)(b1 b2:Bool)(c1:B ((rs.length:Int)>6)=false)(c2:B ((qs.length:Int)>6)=false)(c3:(b1)=true)(c4:(b2)=true)(c5:B (d<1)=false)(n1:H I 12 [] (A6m true))(n2:H I 13 [sL pc rs] (A6m b1))(n3:H I 13 [sL pc qs] (A6m b2))(n4:H I 21 [sL pc rs] (A6l R d))(n5:H I 22 [sL pc rs] (A6t [A6n l.length (G4 l),A6m true]))(hl6:W I (.loop tW) (Xl false rs qs l 0) (.exit 0) (Xl false rs qs l i)):H I 7 [sL pc rs,sL pc qs] (A6m true):=X (fn:=WL) (s:=(Q 4 (A6o (A6m true)::(Q 85 [])))) (ex := .ret) rfl rfl (L (L (L (L (q (W.seq (C Br 400 [.r (A6m true),.b false,.b false,.b false,.r (A6m b1),.b false,.r (A6m b2),.b false,.r (A6l R d),.b false,.r (A6t [A6n l.length (G4 l),A6m true]),.b false] [0,1,4,5,7] (P n1 (P FA (P c1 (P c2 (P n2 (P (H4 c3) (P n3 (P (H4 c4) (P n4 (P c5 (P n5 (P FA a0))))))))))))) (W.seq (W.block hl6) (C Br 400 [] [4] a0)))))))) (by nofun) rfl
theorem Auf(rs qs:List Rn)(b1 b2:Bool)(c1:B ((rs.length:Int)>6)=false)(c2:B ((qs.length:Int)>6)=false)(c3:(b1)=true)(c4:(b2)=false)(n1:H I 12 [] (A6m true))(n2:H I 13 [sL pc rs] (A6m b1))(n3:H I 13 [sL pc qs] (A6m b2)):H I 7 [sL pc rs,sL pc qs] (A6m true):=X (fn:=WL) (s:=(Q 4 (A6o (A6m true)::(Q 85 [])))) (ex := .ret) rfl rfl (L (L (L (L (q (p (C Br 400 [.r (A6m true),.b false,.b false,.b false,.r (A6m b1),.b false,.r (A6m b2),.b true,.b true,.r (A6m true)] [4] (P n1 (P FA (P c1 (P c2 (P n2 (P (H4 c3) (P n3 (P (jN c4) (P HY (P n1 a0))))))))))) (by nofun))))))) (by nofun) rfl
theorem Aug(rs qs:List Rn)(b1:Bool)(c1:B ((rs.length:Int)>6)=false)(c2:B ((qs.length:Int)>6)=false)(c3:(b1)=false)(n1:H I 12 [] (A6m true))(n2:H I 13 [sL pc rs] (A6m b1)):H I 7 [sL pc rs,sL pc qs] (A6m true):=X (fn:=WL) (s:=(Q 4 (A6o (A6m true)::(Q 85 [])))) (ex := .ret) rfl rfl (L (L (L (L (q (p (C Br 400 [.r (A6m true),.b false,.b false,.b false,.r (A6m b1),.b true,.b true,.b true,.r (A6m true)] [4] (P n1 (P FA (P c1 (P c2 (P n2 (P (jN c3) (P HY (P HY (P n1 a0)))))))))) (by nofun))))))) (by nofun) rfl
def Yc4:ICode := .seq (e [V 63 9,V 64 5,S 65 (.len 64),oB 66 .lss 63 65] (.cond 66 .skip (.exit 0))) (.seq (.block 1 (e [S 10 (.mov (ci 0))] (.block 2 (.loop (.seq (e [V 69 10,V 70 7,S 71 (.len 70),oB 72 .lss 69 71] (.cond 72 .skip (.exit 2))) (.seq (.block 3 (.seq (.region true [V 76 5,V 77 9,oA 78 76 77 7,oL 79 78 78 7,V 80 7,V 81 10,oA 82 80 81 7,oL 83 82 82 7,n 84 23 [79,83],V 75 84,oE 85 75 0,oE 86 75 1,V 11 85,V 12 86]) (.seq (.region true [V 88 7,V 89 10,oA 90 88 89 7,oL 91 90 90 7,V 92 5,V 93 9,oA 94 92 93 7,oL 95 94 94 7,n 96 23 [91,95],V 87 96,oE 97 87 0,oE 98 87 1,V 13 97,V 14 98]) (.seq (.region true [V 99 5,V 100 9,oA 101 99 100 7,oL 102 101 101 7,n 103 20 [102],V 104 7,V 105 10,oA 106 104 105 7,oL 107 106 106 7,n 108 20 [107],n 109 19 [103,108],V 15 109]) (e [V 110 12,oI 111 .neq 110 0,V 112 111,h 113 (.mov 14) 112 false,h 114 (.bin .neq 113 (ci 0)) 112 false,S 115 (.pick 112 (cb true) 114),V 116 115,h 117 (.mov 11) 116 false,h 118 (.mov 15) 116 false,h 119 (.bin .neq 117 118) 116 false,S 120 (.pick 116 (cb true) 119),V 121 120,h 122 (.mov 13) 121 false,h 123 (.mov 15) 121 false,h 124 (.un .neg 123) 121 false,h 125 (.bin .neq 122 124) 121 false,S 126 (.pick 121 (cb true) 125)] (.cond 126 (e [S 4 (.mov (cb false))] .ret) .skip)))))) (rg [V 73 10,oI 74 .add 73 1,V 10 74]))))))) (rg [V 67 9,oI 68 .add 67 1,V 9 68]))
def Ys4(o:Bool)(l:List Rt)(l2:List Rt)(i:Int):Ak:=(Q 4 (A6o (A6m o)::(A6o (A6n l.length (G4 l))::(Q 1 (A6o (A6n l2.length (G4 l2))::(Q 1 (A6o (A6l R i)::(Q 117 []))))))))
def LY(rs:List Rn):Bool:=decide (rs.length<=9)&&rs.all fun r=>decide (D4 (O r).natAbs<=100)&&decide (r.2.length<=5)
theorem fV{rs:List Rn}(hg:∀ r∈rs,AN 35184372088832 r):H I 13 [sL pc rs] (A6m (LY rs)):=by
 by_cases c9:rs.length<=9
 ·have d9:decide ((rs.length:Int)>9)=false:=by rw[decide_eq_false_iff_not];omega
  have hb:∀ t:Nat,H I 51 [At (rs.getD t z0)] (A6l R ((D4 (O (rs.getD t z0)).natAbs:Nat):Int)):=fun t=>oR (Be hg t).1 (Be hg t).2;have step:∀ t:Nat,t<rs.length->(!(decide (D4 (O (rs.getD t z0)).natAbs<=100)&&decide ((rs.getD t z0).2.length<=5)))=false->W I N9 (Iy false rs (t:Nat)) .norm (Iy false rs ((t+1:Nat):Int)):=by
   intro t ht hk;simp only[Bool.not_eq_false',Ad,decide_eq_true_eq] at hk;have ei:D R ((t:Int)+1)=((t+1:Nat):Int):=by rw[Bg (by omega) (by omega)];omega
   have k:=A1a false rs (t:Nat) ((D4 (O (rs.getD t z0)).natAbs:Nat):Int) (by simp;omega) (by rw[decide_eq_false_iff_not];omega) (by rw[F,decide_eq_false_iff_not];omega) (by omega) (by rw[F];exact hb t);rwa [ei] at k
  rcases Je (fun j => !(decide (D4 (O (rs.getD j z0)).natAbs<=100)&&decide ((rs.getD j z0).2.length<=5))) rs.length _ 0 (by rw[Ch]) with h | ⟨j,_,h2,h3,h4⟩
  ·have e:LY rs=true:=by
    unfold LY;rw[decide_eq_true c9,Oy,BQ];intro r hr;obtain⟨i,hi,rfl⟩:=Jq.1 hr;have:=h i (by omega) hi;rw[Z,Af hi] at this;simpa using this
   rw[e];exact fH rs _ d9 (Gc (prog:=I) (c:=N9) (ex := .exit 0) (fun t=>Iy false rs (t:Nat)) rs.length (by nofun) (A1b false rs _ (by simp)) 0 (Bv _) (fun t _ h6=>step t h6 (h t (by omega) h6)))
  ·have e:LY rs=false:=by
    unfold LY;rw[decide_eq_true c9,Oy,List.all_eq_false];refine⟨rs.getD j z0,?_,?_⟩
    ·rw[Z,Af h2];exact Ds h2
    ·intro g;rw[g] at h3;cases h3
   rw[e];have out:W I N9 (Iy false rs (j:Nat)) .ret (Iy false rs (j:Nat)):=by
    by_cases c:D4 (O (rs.getD j z0)).natAbs<=100
    ·rw[decide_eq_true c,Oy] at h3;simp only[Em,decide_eq_false_iff_not] at h3;exact A0z false rs (j:Nat) ((D4 (O (rs.getD j z0)).natAbs:Nat):Int) (by simp;omega) (by rw[decide_eq_false_iff_not];omega) (by rw[F,decide_eq_true_eq];omega) (by omega) (by rw[F];exact hb j)
    ·exact A0y false rs (j:Nat) ((D4 (O (rs.getD j z0)).natAbs:Nat):Int) (by simp;omega) (by rw[decide_eq_true_eq];omega) (by omega) (by rw[F];exact hb j)
   exact fG rs _ d9 (Gc (prog:=I) (c:=N9) (ex := .ret) (fun t=>Iy false rs (t:Nat)) j (by nofun) out 0 (Bv _) (fun t _ h6=>step t (by omega) (h4 t (by omega) h6)))
 ·have e:LY rs=false:=by unfold LY;rw[decide_eq_false c9,Kt]
  rw[e];exact fE rs (by rw[decide_eq_true_eq];omega)
theorem fW{rs:List Rn}(hg:∀ r∈rs,AN 35184372088832 r)(h:LY rs=true):(∀ r∈rs,AN 5 r)/\rs.length<=9:=by
 unfold LY at h;simp only[Ad,decide_eq_true_eq,BQ] at h;exact⟨fun r hr=>⟨(hg r hr).1,(h.2 r hr).2⟩,h.1⟩
def stpN(p:List Int)(x:Iv):Nat->Iv
 | 0=>x
 | n+1=>stp p (stpN p x n)
theorem Rm{p:List Int}{C m:Nat}{x:Iv}(h:IvOk C m x):∀ n,C+m+n<3000->IvOk C (m+n) (stpN p x n)
 | 0,_=>h
 | n+1,hc=>A1c (m:=m+n) (Rm h n (by omega)) (by omega)
section
variable {p:List Int} (hp:Om p) {x:Iv} (h:IvOk 128 200 x) {fs:List Rn} {r0:Rn} {e0:Int} {t0:Rn} {f0:Int}
include hp h
end
section
variable {rs:List Rn} (hg:∀ r∈rs,AN 5 r) (hn:rs.length<=9)
include hg hn
theorem Adr(r t:Rn)(e f:Int):H I 75 [A6r [sL pc rs,A6m r.1,A6n r.2.length (lm r.2),A6l R e,A6m t.1,A6n t.2.length (lm t.2),A6l R f]]
  (A6r [A6n ((Ab (M rs)).map cn).length (pc ((Ab (M rs)).map cn)),A6m r.1,A6n r.2.length (lm r.2),A6l R e,A6m t.1,A6n t.2.length (lm t.2),A6l R f]):=by
 rcases Wi (K:=5) (c:=9) hg hn (An _) (by decide) with h | h
 ·exact Acv rs r t e f _ h
 ·exact Acu rs r t e f _ h
theorem pL(r t:Rn)(e f:Int):H I 20 [A6r [sL pc rs,A6m r.1,A6n r.2.length (lm r.2),A6l R e,A6m t.1,A6n t.2.length (lm t.2),A6l R f]]
  (A6r [A6n ((Ab (M rs)).map cn).length (pc ((Ab (M rs)).map cn)),A6m r.1,A6n r.2.length (lm r.2),A6l R e,A6m t.1,A6n t.2.length (lm t.2),A6l R f]) :=
 A0x rs r t e f _ (Rh (K:=5) (c:=9) hg hn (An _) (by decide))
end
end Go.Proofs.YtajompaehjkgkaaGreat
namespace Go.Ai
open Classical renaming byContradiction->Az
open Int renaming add_mul->GX,add_zero->B2,le_of_eq->FW,le_of_lt->A0,le_of_mul_le_mul_left->EI,le_of_mul_le_mul_right->JE,le_refl->Dp,le_trans->Ee,mul_add->CE,mul_assoc->A9,mul_comm->A8,mul_le_mul->DR,mul_le_mul_of_nonneg_left->Ag,mul_le_mul_of_nonneg_right->Ae,mul_ne_zero->AG,mul_neg->DZ,mul_neg_of_pos_of_neg->Ir,mul_nonneg->A3,mul_one->CN,mul_pos->Ba,mul_pow->Qu,mul_sub->EG,natAbs_mul->BM,natAbs_of_nonneg->KA,natCast_add->JS,natCast_mul->CZ,neg_mul->Nn,not_le->H',one_mul->CO,pow_add->BC,pow_nonneg->No,pow_pos->EF,pow_succ->Ax,pow_zero->CD,toNat_of_nonneg->iK,zero_add->DA,zero_mul->CJ
open List renaming eq_nil_of_length_eq_zero->A1,length_map->N,length_pos_iff->Aj,length_range->B6,map_congr_left->F_,map_cons->Cw,map_nil->FK,range->Ao
open Nat renaming add_assoc->D6,add_sub_cancel->F5,le_refl->An,mul_le_mul->Bu,succ_mul->KB,zero_add->Ch
def hs(c:Nat->Int)(x q:Int):Nat->Int
 | 0=>c 0
 | T+1=>q*hs c x q T+c (T+1)*x^(T+1)
theorem Lj{c d:Nat->Int}{x q:Int}:∀ {T:Nat},(∀ i,i<=T->c i=d i)->hs c x q T=hs d x q T
 | 0,h=>h 0 (An _)
 | T+1,h=>by
  simp only[hs];rw[Lj (T:=T) fun i hi=>h i (by omega),h (T+1) (An _)]
theorem IV(a b:Int)(c d:Nat->Int)(x q:Int):∀ T:Nat,hs (fun i=>a*c i+b*d i) x q T=a*hs c x q T+b*hs d x q T
 | 0=>rfl
 | T+1=>by
  simp only[hs];rw[IV a b c d x q T];grind
theorem fX{c:Nat->Int}{T:Nat}(h:∀ i,T<i->c i=0)(x q:Int):∀ k:Nat,hs c x q (T+k)=q^k*hs c x q T
 | 0=>by simp
 | k+1=>by
  rw[<- D6];simp only[hs];rw[fX h x q k,h _ (by omega),Ax];grind
theorem OP(c:Nat->Int)(x q:Int):∀ T:Nat,hs c x q (T+1)=c 0*q^(T+1)+x*hs (fun i=>c (i+1)) x q T
 | 0=>by simp only[hs];grind
 | T+1=>by
  have h:=OP c x q T;have e1:hs c x q (T+1+1)=q*hs c x q (T+1)+c (T+1+1)*x^(T+1+1):=rfl;have e2:hs (fun i=>c (i+1)) x q (T+1)=q*hs (fun i=>c (i+1)) x q T+c (T+1+1)*x^(T+1):=rfl;rw[e1,h,e2,Ax q (T+1),Ax x (T+1)];grind
theorem Ads(c:Nat->Int)(x q:Int)(T:Nat):hs (fun i=>if i=0 then 0 else c (i-1)) x q (T+1)=x*hs c x q T:=by
 rw[OP];simp only[if_pos,CJ,DA];rw[Lj (d:=c) fun i _=>by rw[if_neg (by omega),F5]]
def hp(p:List Int)(x q:Int)(T:Nat):Int:=hs (fun i=>p.getD i 0) x q T
theorem Z4:∀ (p:List Int) (x q:Int),hv p x q=hp p x q (p.length-1)
 | [],_,_=>rfl
 | [a],x,q=>by simp[hv,hp,hs]
 | a::b::p,x,q=>by
  have ih:=Z4 (b::p) x q;have e:hp (a::b::p) x q ((a::b::p).length-1)=a*q^(b::p).length+x*hp (b::p) x q ((b::p).length-1):=by
   unfold hp;show hs _ x q ((b::p).length-1+1)=_;rw[OP];rfl
  rw[e,<- ih];rfl
theorem Ro{p:List Int}{T:Nat}(h:p.length<=T+1)(x q:Int)(k:Nat):hp p x q (T+k)=q^k*hp p x q T :=
 fX (fun i hi=>Bs (by omega)) x q k
theorem Ub(x q:Int):∀ T:Nat,hp [] x q T=0
 | 0=>rfl
 | T+1=>by
  have:=Ub x q T;unfold hp at *
  simp only[hs];rw[this];simp
theorem Rp{r:List Int}{tr:Nat}(hr:r.length<=tr+1)(x q:Int):∀ (p:List Int) (tp:Nat),p.length<=tp+1->hp (Bo p r) x q (tp+tr)=hp p x q tp*hp r x q tr
 | [],tp,_=>by rw[Ub,CJ];exact Ub x q _
 | a::p,tp,h=>by
  have hc:∀ i,(Bo (a::p) r).getD i 0=a*r.getD i 0+1*(if i=0 then 0 else (Bo p r).getD (i-1) 0):=by
   intro i;rw[ED,Cd];by_cases h0:i=0
   ·subst h0;rw[if_neg (by omega),if_pos rfl];omega
   ·rw[if_pos (by omega),if_neg h0];omega
  cases tp with
  | zero =>
   have hp0:p=[]:=A1 (by have h':p.length+1<=0+1:=h;omega);subst hp0;have h0:∀ i,(Bo [] r).getD i 0=0:=fun i=>rfl;unfold hp;rw[Lj (d:=fun i=>a*r.getD i 0+0*r.getD i 0) fun i _=>by rw[hc,h0];split <;> simp,IV,Ch];simp[hs]
  | succ tp =>
   have ih:=Rp hr x q p tp (by have h':p.length+1<=tp+1+1:=h;omega);have hm:=Ro hr x q (tp+1);have ha:hp (a::p) x q (tp+1)=a*q^(tp+1)+x*hp p x q tp:=by unfold hp;rw[OP];rfl
   have hsh:=Ads (fun i=>(Bo p r).getD i 0) x q (tp+tr);have e:hp (Bo (a::p) r) x q (tp+1+tr)=a*hp r x q (tp+1+tr)+1*(x*hp (Bo p r) x q (tp+tr)):=by
    unfold hp;rw[Lj fun i _=>hc i,IV,show tp+1+tr=tp+tr+1 by omega];rw[hsh]
   rw[e,ih,show tp+1+tr=tr+(tp+1) by omega,hm,ha];grind
theorem Auh{r d e Q:List Int}{c c':Int}(h:∀ x,c*Aa r x=Aa Q x*Aa d x+c'*Aa e x)(x q:Int){tq td:Nat}(hQ:Q.length<=tq+1)(hd:d.length<=td+1) :
  c*hp r x q (tq+td)=hp Q x q tq*hp d x q td+c'*hp e x q (tq+td):=by
 have hi:=CW (p:=Av c r) (q:=Dl (Bo Q d) (Av c' e)) (fun x=>by rw[Ap,BJ,AP,Ap];exact h x);have hc:∀ i,c*r.getD i 0+0*r.getD i 0=1*(Bo Q d).getD i 0+c'*e.getD i 0:=by
  intro i;have:=hi i;rw[AJ,C',AJ] at this;omega
 rw[<- Rp hd x q Q tq hQ];unfold hp;have h1:=IV c 0 (fun i=>r.getD i 0) (fun i=>r.getD i 0) x q (tq+td);have h2:=IV 1 c' (fun i=>(Bo Q d).getD i 0) (fun i=>e.getD i 0) x q (tq+td);rw[Lj fun i _=>hc i,h2] at h1;omega
theorem CY{a b A B:Int}(ha:(a.natAbs:Int)<=A)(hb:(b.natAbs:Int)<=B):((a*b).natAbs:Int)<=A*B:=by
 rw[BM,CZ];exact DR ha hb (by omega) (by omega)
theorem HV{a b A B:Int}(ha:(a.natAbs:Int)<=A)(hb:(b.natAbs:Int)<=B):((a+b).natAbs:Int)<=A+B:=by omega
theorem Lk{a A:Int}(ha:(a.natAbs:Int)<=A):∀ n:Nat,((a^n).natAbs:Int)<=A^n
 | 0=>by simp
 | n+1=>by rw[Ax,Ax];exact CY (Lk ha n) ha
theorem OQ(c:Nat->Int)(R:Int)(hR:0<=R):∀ T:Nat,∃ K:Int,0<=K/\∀ q x:Int,0<q->(x.natAbs:Int)<=R*q->((hs c x q T).natAbs:Int)<=K*q^T
 | 0=>⟨((c 0).natAbs:Int),by omega,fun q x _ _=>by simp[hs]⟩
 | T+1=>by
  obtain⟨K,hK,h⟩:=OQ c R hR T;refine⟨K+((c (T+1)).natAbs:Int)*R^(T+1),?_,fun q x hq hx => ?_⟩
  ·have:=A3 (show (0:Int)<=((c (T+1)).natAbs:Int) by omega) (No (m:=T+1) hR);omega
  ·simp only[hs];have h1:=CY (a:=q) (A:=q) (by omega) (h q x hq hx);have h2:=CY (a:=c (T+1)) (A:=((c (T+1)).natAbs:Int)) (by omega) (Lk hx (T+1));have h3:=HV h1 h2;have e:(R*q)^(T+1)=R^(T+1)*q^(T+1):=Qu ..;rw[e] at h3;refine Ee h3 (FW ?_);rw[Ax q T];grind
theorem Yu{x A:Int}(hx:(x.natAbs:Int)<=A)(hx1:((x+1).natAbs:Int)<=A):∀ n:Nat,(((x+1)^(n+1)-x^(n+1)).natAbs:Int)<=((n+1:Nat):Int)*A^n
 | 0=>by
  have e:(x+1)^(0+1)-x^(0+1)=1:=by rw[Ax,CD,Ax,CD];omega
  rw[e];simp
 | n+1=>by
  have ih:=Yu hx hx1 n;have e:(x+1)^(n+1+1)-x^(n+1+1)=(x+1)*((x+1)^(n+1)-x^(n+1))+x^(n+1):=by rw[Ax (x+1) (n+1),Ax x (n+1)];grind
  rw[e];have h:=HV (CY hx1 ih) (Lk hx (n+1));refine Ee h (FW ?_);rw[Ax A n,JS,JS,JS];grind
theorem sS(c:Nat->Int)(R:Int)(hR:0<=R):∀ T:Nat,∃ K:Int,0<=K/\∀ q x:Int,0<q->(x.natAbs:Int)<=R*q->((x+1).natAbs:Int)<=R*q->((hs c (x+1) q (T+1)-hs c x q (T+1)).natAbs:Int)<=K*q^T
 | 0=>⟨((c 1).natAbs:Int),by omega,fun q x _ _ _=>by
   simp only[hs];have:q*c 0+c (0+1)*(x+1)^(0+1)-(q*c 0+c (0+1)*x^(0+1))=c 1:=by simp;grind
   rw[this];simp⟩
 | T+1=>by
  obtain⟨K,hK,h⟩:=sS c R hR T;refine⟨K+((c (T+2)).natAbs:Int)*(((T+1+1:Nat):Int)*R^(T+1)),?_,fun q x hq hx hx1 => ?_⟩
  ·have:=A3 (show (0:Int)<=((c (T+2)).natAbs:Int) by omega) (A3 (show (0:Int)<=((T+1+1:Nat):Int) by omega) (No (m:=T+1) hR));omega
  ·have e:hs c (x+1) q (T+1+1)-hs c x q (T+1+1)=q*(hs c (x+1) q (T+1)-hs c x q (T+1))+c (T+2)*((x+1)^(T+1+1)-x^(T+1+1)):=by
    show (q*hs c (x+1) q (T+1)+c (T+1+1)*(x+1)^(T+1+1))-(q*hs c x q (T+1)+c (T+1+1)*x^(T+1+1))=_;grind
   rw[e];have h1:=CY (a:=q) (A:=q) (by omega) (h q x hq hx hx1);have h2:=CY (a:=c (T+2)) (A:=((c (T+2)).natAbs:Int)) (by omega) (Yu hx hx1 (T+1));have h3:=HV h1 h2;have e2:(R*q)^(T+1)=R^(T+1)*q^(T+1):=Qu ..;rw[e2] at h3;refine Ee h3 (FW ?_);rw[Ax q T];grind
theorem fY{x A:Int}(hA:0<=A)(hx:(x.natAbs:Int)<=A)(hx1:((x+1).natAbs:Int)<=A):∀ n:Nat,(((x+1)^(n+2)-x^(n+2)-((n+2:Nat):Int)*x^(n+1)).natAbs:Int)<=(((n+1)*(n+2):Nat):Int)*A^n
 | 0=>by
  have e:(x+1)^(0+2)-x^(0+2)-((0+2:Nat):Int)*x^(0+1)=1:=by
   rw[show (x+1)^(0+2)=(x+1)*(x+1) by rw[Ax,Ax,CD,CO],show x^(0+2)=x*x by rw[Ax,Ax,CD,CO],show x^(0+1)=x by rw[Ax,CD,CO]];grind
  rw[e];simp
 | n+1=>by
  have ih:=fY hA hx hx1 n;have e:(x+1)^(n+1+2)-x^(n+1+2)-((n+1+2:Nat):Int)*x^(n+1+1)=(x+1)*((x+1)^(n+2)-x^(n+2)-((n+2:Nat):Int)*x^(n+1))+((n+2:Nat):Int)*x^(n+1):=by
   rw[show n+1+2=n+2+1 by omega,Ax (x+1) (n+2),Ax x (n+2),show n+1+1=n+2 by omega,show x^(n+2)=x^(n+1)*x from Ax ..];have:((n+2+1:Nat):Int)=((n+2:Nat):Int)+1:=by omega
   rw[this];grind
  rw[e];have h:=HV (CY hx1 ih) (CY (a:=((n+2:Nat):Int)) (A:=((n+2:Nat):Int)) (by omega) (Lk hx (n+1)));refine Ee h ?_;rw[show A^(n+1)=A^n*A from Ax ..];have hAn:0<=A^n*A:=A3 (No hA) hA;have e2:A*((((n+1)*(n+2):Nat):Int)*A^n)+((n+2:Nat):Int)*(A^n*A)=((((n+1)*(n+2)+(n+2):Nat)):Int)*(A^n*A):=by
   rw[JS];grind
  rw[e2];apply Ae _ hAn;have:(n+1)*(n+2)+(n+2)<=(n+1+1)*(n+1+2):=by
   have:(n+1)*(n+2)+(n+2)=(n+2)*(n+2):=by rw[<- KB]
   rw[this];exact Bu (by omega) (by omega)
  omega
def Tz(c:Nat->Int)(i:Nat):Int:=((i+1:Nat):Int)*c (i+1)
theorem sT(c:Nat->Int)(R:Int)(hR:0<=R):∀ T:Nat,∃ K:Int,0<=K/\∀ q x:Int,0<q->(x.natAbs:Int)<=R*q->((x+1).natAbs:Int)<=R*q ->
  ((hs c (x+1) q (T+2)-hs c x q (T+2)-hs (Tz c) x q (T+1)).natAbs:Int)<=K*q^T
 | 0=>⟨((c 2).natAbs:Int),by omega,fun q x _ _ _=>by
   have e:hs c (x+1) q (0+2)-hs c x q (0+2)-hs (Tz c) x q (0+1)=c 2:=by
    have p1:∀ y:Int,y^(0+1)=y:=fun y=>by rw[Ax,CD,CO]
    have p2:∀ y:Int,y^(0+1+1)=y*y:=fun y=>by rw[Ax,p1]
    show (q*(q*c 0+c (0+1)*(x+1)^(0+1))+c (0+1+1)*(x+1)^(0+1+1))-(q*(q*c 0+c (0+1)*x^(0+1))+c (0+1+1)*x^(0+1+1))-(q*(((0+1:Nat):Int)*c (0+1))+((0+1+1:Nat):Int)*c (0+1+1)*x^(0+1))=_;rw[p1,p1,p2,p2];have h1:((0+1:Nat):Int)=1:=rfl;have h2:((0+1+1:Nat):Int)=2:=rfl;rw[h1,h2];grind
   rw[e];simp⟩
 | T+1=>by
  obtain⟨K,hK,h⟩:=sT c R hR T;refine⟨K+((c (T+3)).natAbs:Int)*((((T+2)*(T+3):Nat):Int)*R^(T+1)),?_,fun q x hq hx hx1 => ?_⟩
  ·have:=A3 (show (0:Int)<=((c (T+3)).natAbs:Int) by omega) (A3 (show (0:Int)<=(((T+2)*(T+3):Nat):Int) by omega) (No (m:=T+1) hR));omega
  ·have e:hs c (x+1) q (T+1+2)-hs c x q (T+1+2)-hs (Tz c) x q (T+1+1)=q*(hs c (x+1) q (T+2)-hs c x q (T+2)-hs (Tz c) x q (T+1))+c (T+3)*((x+1)^(T+1+2)-x^(T+1+2)-((T+1+2:Nat):Int)*x^(T+1+1)):=by
    show (q*hs c (x+1) q (T+2)+c (T+3)*(x+1)^(T+1+2))-(q*hs c x q (T+2)+c (T+3)*x^(T+1+2))-(q*hs (Tz c) x q (T+1)+((T+1+1+1:Nat):Int)*c (T+3)*x^(T+1+1))=_;have:((T+1+1+1:Nat):Int)=((T+1+2:Nat):Int):=rfl;rw[this];grind
   rw[e];have hRq:0<=R*q:=A3 hR (by omega);have h1:=CY (a:=q) (A:=q) (by omega) (h q x hq hx hx1);have h2:=CY (a:=c (T+3)) (A:=((c (T+3)).natAbs:Int)) (by omega) (fY hRq hx hx1 (T+1));have h3:=HV h1 h2;have e2:(R*q)^(T+1)=R^(T+1)*q^(T+1):=Qu ..;rw[e2] at h3;refine Ee h3 (FW ?_);rw[Ax q T];grind
def wv(last:Int):List Int->Int
 | []=>0
 | s::ss=>if s=0 then wv last ss else (if last ≠ 0/\s ≠ last then 1 else 0)+wv s ss
inductive Mid:Int->List Int->List Int->Prop
 | nil (σ:Int):Mid σ [] []
 | st (σ s:Int) {ss tt:List Int}:(s=1\/s = -1)->Mid s ss tt->Mid σ (s::ss) (s::tt)
 | un (σ a b:Int) {ss tt:List Int}:(-1<=a/\a<=1)->(-1<=b/\b<=1)->Mid (-σ) ss tt->Mid σ (a :: -σ::ss) (b :: -σ::tt)
theorem fZ{σ a:Int}(hσ:σ=1\/σ = -1)(ha : -1<=a/\a<=1)(ss:List Int):wv σ (a :: -σ::ss)=1+wv (-σ) ss:=by
 simp only[wv];rcases hσ with rfl | rfl
 ·rcases show a = -1\/a=0\/a=1 by omega with rfl | rfl | rfl <;> simp
 ·rcases show a = -1\/a=0\/a=1 by omega with rfl | rfl | rfl <;> simp
theorem sU{σ:Int}{s t:List Int}(h:Mid σ s t):(σ=1\/σ = -1)->wv σ s=wv σ t:=by
 induction h with
 | nil σ=>intro _;rfl
 | st σ s hs _ ih =>
  intro _;have h0:s ≠ 0:=by omega
  simp only[wv,if_neg h0];rw[ih hs]
 | un σ a b ha hb _ ih =>
  intro hσ;rw[fZ hσ ha,fZ hσ hb,ih (by omega)]
inductive Top:List Int->List Int->Int->Prop
 | st (s:Int) {ss tt:List Int}:(s=1\/s = -1)->Mid s ss tt->Top (s::ss) (s::tt) 0
 | un (σ a b:Int) {ss tt:List Int}:(σ=1\/σ = -1)->(a = -σ\/a=0)->(b=0\/b=σ)->Mid σ ss tt->Top (a::σ::ss) (b::σ::tt) (if a=0 then 0 else 1)
theorem Uc{s t:List Int}{d:Int}(h:Top s t d):wv 0 s=wv 0 t+d:=by
 cases h with
 | st s hs hm =>
  have h0:s ≠ 0:=by omega
  simp only[wv,if_neg h0];rw[sU hm hs];omega
 | un σ a b hσ ha hb hm =>
  have e:=sU hm hσ;simp only[wv];rcases hσ with rfl | rfl
  ·rcases ha with rfl | rfl <;> rcases hb with rfl | rfl <;> simp <;> omega
  ·rcases ha with rfl | rfl <;> rcases hb with rfl | rfl <;> simp <;> omega
theorem gA(p:List Int)(x:Int):Aa p x=(AO p:Int)*Aa (prim p) x:=by
 rw[<- Ap];exact Gl (fun i=>by rw[AJ,OH]) x
theorem GV(k:Nat)(p:List Int):(Da k p).length=k+p.length:=by
 unfold Da;simp
theorem pM{r d:List Int}(hd:BN d)(hd0:d ≠ [])(hl:d.length<=r.length):∃ (c c':Int) (Q:List Int),0<c/\0<c'/\∀ x,c*Aa r x=Aa Q x*Aa d x+c'*Aa (D8 r d) x:=by
 have ht:w d ≠ 0:=Eo hd hd0;have he:=Qb hl ((w d).natAbs:Int) (sg (w d)*w r);have hp:∀ x,Aa (C3 r d ((w d).natAbs:Int) (sg (w d)*w r) r.length) x=(AO (C3 r d ((w d).natAbs:Int) (sg (w d)*w r) r.length):Int)*Aa (D8 r d) x:=fun x=>gA _ x;by_cases h0:AO (C3 r d ((w d).natAbs:Int) (sg (w d)*w r) r.length)=0
 ·have hz:D8 r d=[]:=Do.2 (IB.1 h0);refine⟨((w d).natAbs:Int),1,Da (r.length-d.length) [sg (w d)*w r],by omega,by decide,fun x => ?_⟩;have h1:=he x;have h2:=hp x;rw[h0] at h2;rw[Df,hz];simp only[Aa];have h3:(((0:Nat):Int))*Aa (D8 r d) x=0:=by simp
  rw[h3] at h2;rw[h2] at h1;grind
 ·refine⟨((w d).natAbs:Int),(AO (C3 r d ((w d).natAbs:Int) (sg (w d)*w r) r.length):Int),Da (r.length-d.length) [sg (w d)*w r],by omega,by omega,fun x => ?_⟩;have h1:=he x;have h2:=hp x;rw[Df];simp only[Aa];rw[<- h2,h1];grind
theorem Ws{d:List Int}(hd:BN d)(hd0:d ≠ []):∀ (f:Nat) (r:List Int),∃ (c c':Int) (Q:List Int),0<c/\0<c'/\∀ x,c*Aa r x=Aa Q x*Aa d x+c'*Aa (DT f r d) x
 | 0,r=>⟨1,1,[],by decide,by decide,fun x=>by simp[Aa,DT]⟩
 | f+1,r=>by
  simp only[DT];split
  ·rename_i hl;obtain⟨c,c',Q,h1,h2,h3⟩:=pM hd hd0 hl;obtain⟨e,e',S,g1,g2,g3⟩:=Ws hd hd0 f (D8 r d);refine⟨e*c,c'*e',Dl (Av e Q) (Av c' S),Ba g1 h1,Ba h2 g2,fun x => ?_⟩;have a:=h3 x;have b:=g3 x;rw[BJ,Ap,Ap,A9 e c,a,CE,A8 e (c'*_),A9 c',A8 _ e,b];grind
  ·exact⟨1,1,[],by decide,by decide,fun x=>by simp[Aa]⟩
theorem Wt{a b:List Int}(hb:BN b)(hb0:b ≠ []):∃ (c c':Int) (Q:List Int),0<c/\0<c'/\∀ x,c*Aa a x=Aa Q x*Aa b x+(-c')*Aa (BZ (Bz a b)) x:=by
 obtain⟨c,c',Q,h1,h2,h3⟩:=Ws hb hb0 a.length a;refine⟨c,c',Q,h1,h2,fun x => ?_⟩;rw[h3 x,Jd];unfold Bz;grind
theorem Qi{a b:List Int}(hb:BN b)(hb0:b ≠ [])(h:DY [1] a b):DY [1] b (BZ (Bz a b)):=by
 obtain⟨c,c',Q,h1,h2,h3⟩:=Wt (a:=a) hb hb0;have h4:DY [1] (BZ (Bz a b)) b:=DY.step (r:=BZ (Bz a b)) (d:=b) (e:=a) (q:=Q) (a:=c') (m := -c) (by omega) (by omega) (fun x=>by
  have:=h3 x;grind) h.comm
 exact h4.comm
def Hh(p:List Int)(x q:Int):Int:=hp p x q (p.length-1)
def JB(p:List Int)(x q:Int):Prop:=(0<Hh p x q/\0<Hh p (x+1) q)\/(Hh p x q<0/\Hh p (x+1) q<0)
def Wu(R q x:Int):Prop:=0<q/\(x.natAbs:Int)<=R*q/\((x+1).natAbs:Int)<=R*q
theorem G1{q:Int}(h:0<q)(n:Nat):0<q^n:=EF h
theorem small(p:List Int)(R:Int)(hR:0<=R):∃ K:Int,0<=K/\∀ q x:Int,Wu R q x->¬ JB p x q->((Hh p x q).natAbs:Int)*q<=K*q^(p.length-1)/\((Hh p (x+1) q).natAbs:Int)*q<=K*q^(p.length-1):=by
 cases hn:p.length-1 with
 | zero =>
  refine⟨0,Dp _,fun q x _ hst => ?_⟩;have e:∀ y,Hh p y q=p.getD 0 0:=fun y=>by unfold Hh hp;rw[hn];rfl
  unfold JB at hst;rw[e,e] at hst |-;have:p.getD 0 0=0:=by omega
  rw[this];simp
 | succ T =>
  obtain⟨K,hK,h⟩:=sS (fun i=>p.getD i 0) R hR T;refine⟨K,hK,fun q x hr hst => ?_⟩;have h1:=h q x hr.1 hr.2.1 hr.2.2;have e:∀ y,Hh p y q=hs (fun i=>p.getD i 0) y q (T+1):=fun y=>by unfold Hh hp;rw[hn]
  unfold JB at hst;rw[e,e] at hst;rw[e,e];generalize hs (fun i=>p.getD i 0) x q (T+1)=a at *
  generalize hs (fun i=>p.getD i 0) (x+1) q (T+1)=b at *
  have ha:(a.natAbs:Int)<=((b-a).natAbs:Int):=by omega
  have hb:(b.natAbs:Int)<=((b-a).natAbs:Int):=by omega
  have hq:=hr.1;rw[Ax,<- A9];exact⟨Ae (Ee ha h1) (by omega),Ae (Ee hb h1) (by omega)⟩
theorem A1l(x q:Int)(T:Nat):hp [1] x q T=q^T:=by
 have:=Ro (p:=[1]) (T:=0) (by simp) x q T;rw[Ch] at this;rw[this];show q^T*1=_;omega
theorem Su{f g:List Int}(R:Int)(hR:0<=R)(h:DY [1] f g):∃ L Q0:Int,0<L/\0<Q0/\∀ q x:Int,Wu R q x->Q0<=q->¬ JB f x q->q^(g.length-1)<=L*((Hh g x q).natAbs:Int):=by
 obtain⟨_,_,c,u,v,hc,hid⟩:=h;obtain⟨K,hK,hsm⟩:=small f R hR;obtain⟨Ku,hKu,hu⟩:=OQ (fun i=>u.getD i 0) R hR (max u.length v.length+(g.length-1));obtain⟨Kv,hKv,hv⟩:=OQ (fun i=>v.getD i 0) R hR (max u.length v.length+(f.length-1));refine⟨2*Kv+1,2*(Ku*K)+1,by omega,by have:=A3 hKu hK;omega,fun q x hr hq hst => ?_⟩;obtain⟨hq0,hx,hx1⟩:=hr;have h1:=(hsm q x ⟨hq0,hx,hx1⟩ hst).1;have h2:=hu q x hq0 hx;have h3:=hv q x hq0 hx;have e1:=Auh (r:=[1]) (d:=f) (e:=Bo v g) (Q:=u) (c:=c) (c':=1) (fun y=>by rw[AP,hid y];omega) x q (tq:=max u.length v.length+(g.length-1)) (td:=f.length-1) (by omega) (by omega);have e2:=Rp (r:=g) (tr:=g.length-1) (by omega) x q v (max u.length v.length+(f.length-1)) (by omega);have eT:max u.length v.length+(f.length-1)+(g.length-1)=max u.length v.length+(g.length-1)+(f.length-1):=by omega
 rw[eT] at e2;rw[e2,A1l,CO] at e1;change c*q^(max u.length v.length+(g.length-1)+(f.length-1))=hs (fun i=>u.getD i 0) x q (max u.length v.length+(g.length-1))*Hh f x q+hs (fun i=>v.getD i 0) x q (max u.length v.length+(f.length-1))*Hh g x q at e1;have ep:q^(max u.length v.length+(g.length-1)+(f.length-1))=q^(max u.length v.length+(f.length-1))*q^(g.length-1):=by rw[<- BC,<- eT]
 have ep2:q^(max u.length v.length+(g.length-1))*q^(f.length-1)=q^(max u.length v.length+(f.length-1))*q^(g.length-1):=by rw[<- BC,<- ep]
 have pa:=G1 hq0 (max u.length v.length+(f.length-1));have pb:=G1 hq0 (max u.length v.length+(g.length-1));have pm:=G1 hq0 (g.length-1);have pn:=G1 hq0 (f.length-1);rw[ep] at e1;generalize hs (fun i=>u.getD i 0) x q (max u.length v.length+(g.length-1))=U at *
 generalize hs (fun i=>v.getD i 0) x q (max u.length v.length+(f.length-1))=V at *
 generalize q^(max u.length v.length+(f.length-1))=A at *
 generalize q^(max u.length v.length+(g.length-1))=B at *
 generalize q^(g.length-1)=M at *
 generalize q^(f.length-1)=N at *
 generalize Hh f x q=F at *
 generalize Hh g x q=G at *
 have n1:((c*(A*M)).natAbs:Int)<=(U.natAbs:Int)*(F.natAbs:Int)+(V.natAbs:Int)*(G.natAbs:Int):=by
  rw[e1];exact HV (CY (Dp _) (Dp _)) (CY (Dp _) (Dp _))
 have n2:A*M<=((c*(A*M)).natAbs:Int):=by
  rw[BM,CZ];have hAM:=Ba pa pm;have:((A*M).natAbs:Int)=A*M:=KA (by omega);rw[this];have:=Ae (show (1:Int)<=(c.natAbs:Int) by omega) (show 0<=A*M by omega);omega
 have n3:(U.natAbs:Int)*(F.natAbs:Int)*q<=A*(Ku*K*M):=by
  have h5:(U.natAbs:Int)*((F.natAbs:Int)*q)<=Ku*B*(K*N):=DR h2 h1 (A3 (by omega) (by omega)) (A3 hKu (by omega));have e5:Ku*B*(K*N)=A*(Ku*K*M):=by
   have:Ku*B*(K*N)=Ku*K*(B*N):=by grind
   rw[this,ep2];grind
  rw[A9];omega
 have n4:(V.natAbs:Int)*(G.natAbs:Int)*q<=A*(Kv*((G.natAbs:Int)*q)):=by
  have h5:=Ae h3 (A3 (show (0:Int)<=(G.natAbs:Int) by omega) (show 0<=q by omega));rw[A9];refine Ee h5 (FW ?_);grind
 have n5:A*(M*q)<=A*(Ku*K*M+Kv*((G.natAbs:Int)*q)):=by
  have h6:=Ae (Ee n2 n1) (show 0<=q by omega);rw[GX] at h6;rw[CE];have:A*M*q=A*(M*q):=A9 ..;omega
 have n6:=EI n5 pa;have n7:2*(Ku*K*M)<=M*q:=by
  have h7:=Ag (show 2*(Ku*K)<=q by omega) (show 0<=M by omega);have:M*(2*(Ku*K))=2*(Ku*K*M):=by grind
  omega
 have n8:M*q<=2*Kv*(G.natAbs:Int)*q:=by
  have:2*Kv*(G.natAbs:Int)*q=2*(Kv*((G.natAbs:Int)*q)):=by grind
  omega
 have n9:M<=2*Kv*(G.natAbs:Int):=JE n8 hq0;have:(2*Kv+1)*(G.natAbs:Int)=2*Kv*(G.natAbs:Int)+(G.natAbs:Int):=by rw[GX,CO]
 omega
theorem Aui(g:List Int)(R L:Int)(hR:0<=R)(hL:0<L):∃ Q0:Int,0<Q0/\∀ q x:Int,Wu R q x->Q0<=q->q^(g.length-1)<=L*((Hh g x q).natAbs:Int)->JB g x q:=by
 obtain⟨K,hK,hsm⟩:=small g R hR;refine⟨L*K+1,by have:=A3 (show 0<=L by omega) hK;omega,fun q x hr hq hf => ?_⟩;apply Az;intro hst;have h1:=(hsm q x hr hst).1;have hq0:=hr.1;have pm:=G1 hq0 (g.length-1);generalize q^(g.length-1)=M at *
 generalize ((Hh g x q).natAbs:Int)=G at *
 have h2:=Ae hf (show 0<=q by omega);have h3:=Ag h1 (show 0<=L by omega);have e1:L*(G*q)=L*G*q:=by grind
 have e2:L*(K*M)=M*(L*K):=by grind
 have h4:M*q<=M*(L*K):=by omega
 have h5:=EI h4 pm;omega
theorem OR{f g:List Int}(R:Int)(hR:0<=R)(h:DY [1] f g):∃ L Q0:Int,0<L/\0<Q0/\∀ q x:Int,Wu R q x->Q0<=q->¬ JB f x q->JB g x q/\q^(g.length-1)<=L*((Hh g x q).natAbs:Int):=by
 obtain⟨L,Q1,hL,hQ1,h1⟩:=Su R hR h;obtain⟨Q2,hQ2,h2⟩:=Aui g R L hR hL;refine⟨L,Q1+Q2,hL,by omega,fun q x hr hq hst => ?_⟩;have h3:=h1 q x hr (by omega) hst;exact⟨h2 q x hr (by omega) h3,h3⟩
theorem Adt{a b e Q:List Int}{c c':Int}(R:Int)(hR:0<=R)(hc:0<c)(hc':0<c')(hid:∀ x,c*Aa a x=Aa Q x*Aa b x+(-c')*Aa e x)(h:DY [1] b e) :
  ∃ Q0:Int,0<Q0/\∀ q x:Int,Wu R q x->Q0<=q->¬ JB b x q->(0<Hh e x q->Hh a x q<0)/\(Hh e x q<0->0<Hh a x q):=by
 obtain⟨K,hK,hsm⟩:=small b R hR;obtain⟨L,Q1,hL,hQ1,hf⟩:=Su R hR h;obtain⟨KQ,hKQ,hq⟩:=OQ (fun i=>Q.getD i 0) R hR (Q.length+a.length+e.length);have hLK:=A3 (show 0<=L by omega) (A3 hKQ hK);refine⟨Q1+L*(KQ*K)+1,by omega,fun q x hr hqq hst => ?_⟩;have h1:=(hsm q x hr hst).1;have h2:=hf q x hr (by omega) hst;have hq0:=hr.1;have h3:=hq q x hq0 hr.2.1;have e1:=Auh hid x q (tq:=Q.length+a.length+e.length) (td:=b.length-1) (by omega) (by omega);have ea:=Ro (p:=a) (T:=a.length-1) (by omega) x q (Q.length+a.length+e.length+(b.length-1)-(a.length-1));have ee:=Ro (p:=e) (T:=e.length-1) (by omega) x q (Q.length+a.length+e.length+(b.length-1)-(e.length-1));rw[show a.length-1+(Q.length+a.length+e.length+(b.length-1)-(a.length-1))=Q.length+a.length+e.length+(b.length-1) by omega] at ea;rw[show e.length-1+(Q.length+a.length+e.length+(b.length-1)-(e.length-1))=Q.length+a.length+e.length+(b.length-1) by omega] at ee;rw[ea,ee] at e1;change c*(q^_*Hh a x q)=hs (fun i=>Q.getD i 0) x q (Q.length+a.length+e.length)*Hh b x q+(-c')*(q^_*Hh e x q) at e1;have pA:=G1 hq0 (Q.length+a.length+e.length+(b.length-1)-(a.length-1));have pE:=G1 hq0 (Q.length+a.length+e.length+(b.length-1)-(e.length-1));have pT:=G1 hq0 (Q.length+a.length+e.length);have pB:=G1 hq0 (b.length-1);have eP:q^(Q.length+a.length+e.length+(b.length-1)-(e.length-1))*q^(e.length-1)=q^(Q.length+a.length+e.length)*q^(b.length-1):=by
  rw[<- BC,<- BC];congr 1;omega
 generalize q^(Q.length+a.length+e.length+(b.length-1)-(a.length-1))=A at *
 generalize q^(Q.length+a.length+e.length+(b.length-1)-(e.length-1))=E at *
 generalize q^(Q.length+a.length+e.length)=T at *
 generalize q^(b.length-1)=B at *
 generalize q^(e.length-1)=M at *
 generalize hs (fun i=>Q.getD i 0) x q (Q.length+a.length+e.length)=U at *
 generalize Hh a x q=Ha at *
 generalize Hh b x q=Hb at *
 generalize Hh e x q=He at *
 have pP:=Ba pT pB;have n1:((U*Hb).natAbs:Int)*q<=KQ*K*(T*B):=by
  have h5:(U.natAbs:Int)*((Hb.natAbs:Int)*q)<=KQ*T*(K*B):=DR h3 h1 (A3 (by omega) (by omega)) (A3 hKQ (by omega));have e5:((U*Hb).natAbs:Int)*q=(U.natAbs:Int)*((Hb.natAbs:Int)*q):=by rw[BM,CZ];grind
  have e6:KQ*T*(K*B)=KQ*K*(T*B):=by grind
  omega
 have n2:T*B<=L*(E*(He.natAbs:Int)):=by
  have h6:=Ag h2 (show 0<=E by omega);have e7:E*(L*(He.natAbs:Int))=L*(E*(He.natAbs:Int)):=by grind
  omega
 have n3:((U*Hb).natAbs:Int)<E*(He.natAbs:Int):=by
  apply H'.1;intro hle;have h7:=Ae (Ag hle (show 0<=L by omega)) (show 0<=q by omega);have h8:=Ae n2 (show 0<=q by omega);have h9:=Ag n1 (show 0<=L by omega);have e8:L*((U*Hb).natAbs:Int)*q=L*(((U*Hb).natAbs:Int)*q):=A9 ..;have e9:L*(KQ*K*(T*B))=T*B*(L*(KQ*K)):=by grind
  have h10:T*B*q<=T*B*(L*(KQ*K)):=by omega
  have h11:=EI h10 pP;omega
 have n4:E*(He.natAbs:Int)<=c'*(E*(He.natAbs:Int)):=by
  have:=Ae (show (1:Int)<=c' by omega) (A3 (show 0<=E by omega) (show (0:Int)<=(He.natAbs:Int) by omega));omega
 generalize U*Hb=W at *
 refine⟨fun hp => ?_,fun hn => ?_⟩
 ·have e10:(He.natAbs:Int)=He:=by omega
  rw[e10] at n3 n4;apply H'.1;intro hge;have h12:=A3 (show 0<=c by omega) (A3 (show 0<=A by omega) hge);rw[e1,Nn] at h12;omega
 ·have e10:(He.natAbs:Int) = -He:=by omega
  rw[e10,DZ] at n3;rw[e10,DZ,DZ] at n4;apply H'.1;intro hle;have h12:=A3 (show 0<=c by omega) (A3 (show 0<=A by omega) (show 0 <= -Ha by omega));rw[DZ,DZ,e1,Nn] at h12;omega
theorem gB(f:List Int)(x q:Int)(m:Nat):hs (Tz fun i=>f.getD i 0) x q m=(AO (Aq f):Int)*hs (fun i=>(prim (Aq f)).getD i 0) x q m:=by
 have h:=IV (AO (Aq f):Int) 0 (fun i=>(prim (Aq f)).getD i 0) (fun i=>(prim (Aq f)).getD i 0) x q m;rw[CJ,B2] at h;rw[<- h];apply Lj;intro i _;have h1:=OH (Aq f) i;have h2:=C_ f i;unfold Tz;rw[h1,h2];grind
theorem T0{f:List Int}(R:Int)(hR:0<=R)(hl:2<=f.length)(hl1:(prim (Aq f)).length=f.length-1)(h:DY [1] f (prim (Aq f)))(hc:0<AO (Aq f)) :
  ∃ Q0:Int,0<Q0/\∀ q x:Int,Wu R q x->Q0<=q->¬ JB f x q->(0<Hh (prim (Aq f)) x q->Hh f x q<Hh f (x+1) q)/\(Hh (prim (Aq f)) x q<0->Hh f (x+1) q<Hh f x q):=by
 obtain⟨L,Q1,hL,hQ1,hf⟩:=Su R hR h;cases hm:f.length-2 with
 | zero =>
  refine⟨Q1,hQ1,fun q x hr hq hst => ?_⟩;have hd:=gB f x q 0;have e1:∀ y,Hh f y q=hs (fun i=>f.getD i 0) y q 1:=fun y=>by unfold Hh hp;rw[show f.length-1=1 by omega]
  have e2:Hh (prim (Aq f)) x q=hs (fun i=>(prim (Aq f)).getD i 0) x q 0:=by unfold Hh hp;rw[hl1,show f.length-1-1=0 by omega]
  have e3:hs (fun i=>f.getD i 0) (x+1) q 1-hs (fun i=>f.getD i 0) x q 1=hs (Tz fun i=>f.getD i 0) x q 0:=by
   show (q*f.getD 0 0+f.getD (0+1) 0*(x+1)^(0+1))-(q*f.getD 0 0+f.getD (0+1) 0*x^(0+1))=((0+1:Nat):Int)*f.getD (0+1) 0;have p1:∀ y:Int,y^(0+1)=y:=fun y=>by rw[Ax,CD,CO]
   rw[p1,p1];have h1:((0+1:Nat):Int)=1:=rfl;rw[h1];grind
  rw[e1,e1,e2];rw[hd] at e3;generalize hs (fun i=>(prim (Aq f)).getD i 0) x q 0=D at *
  refine⟨fun hp => ?_,fun hn => ?_⟩
  ·have:=Ba (show (0:Int)<(AO (Aq f):Int) by omega) hp;omega
  ·have:=Ba (show (0:Int)<(AO (Aq f):Int) by omega) (show 0 < -D by omega);rw[DZ] at this;omega
 | succ T =>
  obtain⟨K,hK,hder⟩:=sT (fun i=>f.getD i 0) R hR T;have hLK:=A3 (show 0<=L by omega) hK;refine⟨Q1+L*K+1,by omega,fun q x hr hq hst => ?_⟩;have hq0:=hr.1;have h2:=hf q x hr (by omega) hst;have h3:=hder q x hq0 hr.2.1 hr.2.2;have hd:=gB f x q (T+1);have e1:∀ y,Hh f y q=hs (fun i=>f.getD i 0) y q (T+2):=fun y=>by unfold Hh hp;rw[show f.length-1=T+2 by omega]
  have e2:Hh (prim (Aq f)) x q=hs (fun i=>(prim (Aq f)).getD i 0) x q (T+1):=by unfold Hh hp;rw[hl1,show f.length-1-1=T+1 by omega]
  rw[hl1,show f.length-1-1=T+1 by omega,Ax,e2] at h2;rw[e1,e1,e2];rw[hd] at h3;have pT:=G1 hq0 T;generalize q^T=M at *
  generalize hs (fun i=>f.getD i 0) (x+1) q (T+2)=b at *
  generalize hs (fun i=>f.getD i 0) x q (T+2)=a at *
  generalize hs (fun i=>(prim (Aq f)).getD i 0) x q (T+1)=D at *
  have n1:K*M<(D.natAbs:Int):=by
   apply H'.1;intro hle;have h5:=Ag hle (show 0<=L by omega);have e5:L*(K*M)=M*(L*K):=by grind
   have h6:M*q<=M*(L*K):=by omega
   have:=EI h6 pT;omega
  have n2:=Ae (show (1:Int)<=(AO (Aq f):Int) by omega) (show (0:Int)<=(D.natAbs:Int) by omega);refine⟨fun hp => ?_,fun hn => ?_⟩
  ·have e6:(D.natAbs:Int)=D:=by omega
   rw[e6] at n1 n2;omega
  ·have e6:(D.natAbs:Int) = -D:=by omega
   rw[e6,CO,DZ] at n2;omega
def Cz(n:Int):Int:=if n<0 then -1 else if 0<n then 1 else 0
theorem Z5(n:Int) : -1<=Cz n/\Cz n<=1:=by unfold Cz; (repeat' split) <;> omega
def GW:Nat->List Int->List Int->List (List Int)
 | 0,_,_=>[]
 | f+1,a,b=>if b=[] then [] else b::GW f b (BZ (Bz a b))
def D0(l:List (List Int))(x q:Int):List Int:=l.map fun p=>Cz (Hh p x q)
theorem K3{p:List Int}{x q:Int}(h:JB p x q):Cz (Hh p (x+1) q)=Cz (Hh p x q)/\(Cz (Hh p x q)=1\/Cz (Hh p x q) = -1):=by
 unfold JB at h;unfold Cz;rcases h with ⟨h1,h2⟩ | ⟨h1,h2⟩
 ·rw[if_neg (by omega),if_pos h2,if_neg (by omega),if_pos h1];exact⟨rfl,.inl rfl⟩
 ·rw[if_pos h2,if_pos h1];exact⟨rfl,.inr rfl⟩
theorem A1m(x q:Int):Hh [] x q=0:=Ub x q _
theorem Ot{a b:List Int}(ha:BN a):BN (Bz a b):=by
 unfold Bz;generalize a.length=f;induction f generalizing a with
 | zero=>exact ha
 | succ f ih =>
  simp only[DT];split
  ·exact ih (Tn a b)
  ·exact ha
theorem Adu{d:List Int}(hd0:d ≠ []):∀ (f:Nat) (r:List Int),r.length<=f->(DT f r d).length<d.length:=by
 have hdl:=Aj.2 hd0;intro f;induction f with
 | zero=>intro r h;simp only[DT];omega
 | succ f ih =>
  intro r h;simp only[DT];split
  ·rename_i hl;have:=IQ hd0 hl;exact ih _ (by omega)
  ·omega
theorem Sv{a b:List Int}(hb0:b ≠ []):(Bz a b).length<b.length:=Adu hb0 _ _ (An _)
theorem gC(R:Int)(hR:0<=R):∀ (n f:Nat),f<=n->∀ (a b:List Int),b.length<=f->BN a->BN b->DY [1] a b ->
  ∃ Q0:Int,0<Q0/\∀ q x:Int,Wu R q x->Q0<=q->JB a x q->Mid (Cz (Hh a x q)) (D0 (GW f a b) x q) (D0 (GW f a b) (x+1) q):=by
 intro n;induction n with
 | zero =>
  intro f hf a b hb _ _ _;have:f=0:=by omega
  subst this;exact⟨1,by decide,fun q x _ _ _=>Mid.nil _⟩
 | succ n ih =>
  intro f hf a b hb ha lb h;by_cases hb0:b=[]
  ·have e:GW f a b=[]:=by
    cases f with
    | zero=>rfl
    | succ f=>simp only[GW];rw[if_pos hb0]
   rw[e];exact⟨1,by decide,fun q x _ _ _=>Mid.nil _⟩
  ·have hbl:=Aj.2 hb0;obtain⟨f,rfl⟩:∃ k,f=k+1:=⟨f-1,by omega⟩;have hpl:=Sv (a:=a) hb0;have he:=Qi lb hb0 h;have le:BN (BZ (Bz a b)):=HM (Ot ha);obtain⟨Q1,hQ1,h1⟩:=ih f (by omega) b (BZ (Bz a b)) (by rw[DG];omega) lb le he;obtain⟨L,Q2,hL,hQ2,h2⟩:=OR R hR he;obtain⟨c,c',Q,hc,hc',hid⟩:=Wt (a:=a) lb hb0;obtain⟨Q3,hQ3,h3⟩:=Adt R hR hc hc' hid he;have e1:GW (f+1) a b=b::GW f b (BZ (Bz a b)):=by simp only[GW];rw[if_neg hb0]
   rw[e1];by_cases he0:BZ (Bz a b)=[]
   ·refine⟨Q1+Q2,by omega,fun q x hr hq hst => ?_⟩;have hsb:JB b x q:=by
     apply Az;intro hn;have:=(h2 q x hr (by omega) hn).2;rw[he0,A1m] at this;simp at this
    obtain⟨g1,g2⟩:=K3 hsb;have hm:=h1 q x hr (by omega) hsb;show Mid _ (Cz (Hh b x q)::_) (Cz (Hh b (x+1) q)::_);rw[g1];exact Mid.st _ _ g2 hm
   ·have hel:=Aj.2 he0;rw[DG] at hel;obtain⟨f,rfl⟩:∃ k,f=k+1:=⟨f-1,by omega⟩;have he2:=Qi le he0 he;have hpl2:=Sv (a:=b) he0;rw[DG] at hpl2;obtain⟨Q4,hQ4,h4⟩:=ih f (by omega) (BZ (Bz a b)) (BZ (Bz b (BZ (Bz a b)))) (by rw[DG];omega) le (HM (Ot lb)) he2;refine⟨Q1+Q2+Q3+Q4,by omega,fun q x hr hq hst => ?_⟩;by_cases hsb:JB b x q
    ·obtain⟨g1,g2⟩:=K3 hsb;have hm:=h1 q x hr (by omega) hsb;show Mid _ (Cz (Hh b x q)::_) (Cz (Hh b (x+1) q)::_);rw[g1];exact Mid.st _ _ g2 hm
    ·obtain⟨hse,_⟩:=h2 q x hr (by omega) hsb;obtain⟨r1,r2⟩:=h3 q x hr (by omega) hsb;obtain⟨g1,g2⟩:=K3 hse;have hm:=h4 q x hr (by omega) hse;have hsg:Cz (Hh (BZ (Bz a b)) x q) = -Cz (Hh a x q):=by
      unfold JB at hse;unfold Cz;rcases hse with ⟨k1,_⟩ | ⟨k1,_⟩
      ·have:=r1 k1;rw[if_neg (by omega),if_pos k1,if_pos this];rfl
      ·have:=r2 k1;rw[if_pos k1,if_neg (by omega),if_pos this]
     have e2:GW (f+1) b (BZ (Bz a b))=BZ (Bz a b)::GW f (BZ (Bz a b)) (BZ (Bz b (BZ (Bz a b)))):=by simp only[GW];rw[if_neg he0]
     rw[e2];show Mid _ (Cz (Hh b x q)::Cz (Hh (BZ (Bz a b)) x q)::_) (Cz (Hh b (x+1) q)::Cz (Hh (BZ (Bz a b)) (x+1) q)::_);rw[g1];rw[hsg] at hm |-;exact Mid.un _ _ _ (Z5 _) (Z5 _) hm
theorem A1n{a:Int}(h:a=1\/a = -1)(n:Int)(h2:Cz n=a):(a=1/\0<n)\/(a = -1/\n<0):=by
 unfold Cz at h2;split at h2
 ·right;omega
 ·split at h2
  ·left;omega
  ·omega
theorem OS{f:List Int}(R:Int)(hR:0<=R)(lf:BN f)(hl:2<=f.length)(hl1:(prim (Aq f)).length=f.length-1)(h:DY [1] f (prim (Aq f)))(hc:0<AO (Aq f))(n:Nat)(hn:f.length-1<=n) :
  ∃ Q0:Int,0<Q0/\∀ q x:Int,Wu R q x->Q0<=q->∃ d:Int,Top (D0 (f::GW n f (prim (Aq f))) x q) (D0 (f::GW n f (prim (Aq f))) (x+1) q) d/\(d=0\/d=1)/\(d=1->¬ JB f x q/\Hh f x q ≠ 0)/\(d=0->JB f x q\/Hh f x q=0):=by
 have l1:BN (prim (Aq f)):=B_ _;have h10:prim (Aq f) ≠ []:=by intro h0;rw[h0] at hl1;simp at hl1;omega
 obtain⟨Q1,hQ1,m1⟩:=gC R hR n n (An _) f (prim (Aq f)) (by omega) lf l1 h;obtain⟨L,Q2,hL,hQ2,p2⟩:=OR R hR h;obtain⟨Q3,hQ3,p3⟩:=T0 R hR hl hl1 h hc;obtain⟨n,rfl⟩:∃ k,n=k+1:=⟨n-1,by omega⟩;have e1:GW (n+1) f (prim (Aq f))=prim (Aq f)::GW n (prim (Aq f)) (BZ (Bz f (prim (Aq f)))):=by simp only[GW];rw[if_neg h10]
 have he:=Qi l1 h10 h;have hpl:=Sv (a:=f) h10;obtain⟨Q4,hQ4,m4⟩:=gC R hR n n (An _) (prim (Aq f)) (BZ (Bz f (prim (Aq f)))) (by rw[DG];omega) l1 (HM (Ot lf)) he;refine⟨Q1+Q2+Q3+Q4,by omega,fun q x hr hq => ?_⟩;by_cases hst:JB f x q
 ·obtain⟨g1,g2⟩:=K3 hst;have hm:=m1 q x hr (by omega) hst;refine⟨0,?_,.inl rfl,fun h=>absurd h (by decide),fun _ => .inl hst⟩;show Top (Cz (Hh f x q)::_) (Cz (Hh f (x+1) q)::_) 0;rw[g1];exact Top.st _ g2 hm
 ·obtain⟨hs1,_⟩:=p2 q x hr (by omega) hst;obtain⟨g1,g2⟩:=K3 hs1;obtain⟨r1,r2⟩:=p3 q x hr (by omega) hst;have hm:=m4 q x hr (by omega) hs1;rw[e1];refine⟨if Cz (Hh f x q)=0 then 0 else 1,?_,by split;exact .inl rfl;exact .inr rfl,?_,?_⟩
  ·show Top (Cz (Hh f x q)::Cz (Hh (prim (Aq f)) x q)::_) (Cz (Hh f (x+1) q)::Cz (Hh (prim (Aq f)) (x+1) q)::_) _;rw[g1];unfold JB at hst;rcases A1n g2 _ rfl with ⟨k1,k2⟩ | ⟨k1,k2⟩
   ·have hd:=r1 k2;refine Top.un _ _ _ g2 ?_ ?_ hm
    ·rw[k1];unfold Cz; (repeat' split) <;> omega
    ·rw[k1];unfold Cz; (repeat' split) <;> omega
   ·have hd:=r2 k2;refine Top.un _ _ _ g2 ?_ ?_ hm
    ·rw[k1];unfold Cz; (repeat' split) <;> omega
    ·rw[k1];unfold Cz; (repeat' split) <;> omega
  ·intro hd;refine⟨hst,fun h0 => ?_⟩;rw[h0] at hd;exact absurd hd (by decide)
  ·intro hd;right;apply Az;intro h0;rw[if_neg (by unfold Cz; (repeat' split) <;> omega)] at hd
   exact absurd hd (by decide)
theorem gD{f:List Int}(R:Int)(hR:0<=R)(lf:BN f)(hl:2<=f.length)(hl1:(prim (Aq f)).length=f.length-1)(h:DY [1] f (prim (Aq f)))(hc:0<AO (Aq f))(n:Nat)(hn:f.length-1<=n) :
  ∃ Q0:Int,0<Q0/\∀ q u:Int,0<q->Q0<=q->∀ k:Nat,(u.natAbs:Int)<=R*q->((u+(k:Int)).natAbs:Int)<=R*q ->
   wv 0 (D0 (f::GW n f (prim (Aq f))) (u+(k:Int)) q)<=wv 0 (D0 (f::GW n f (prim (Aq f))) u q):=by
 obtain⟨Q0,hQ0,ht⟩:=OS R hR lf hl hl1 h hc n hn;refine⟨Q0,hQ0,fun q u hq0 hq k => ?_⟩;induction k with
 | zero=>intro _ _;simp
 | succ k ih =>
  intro h1 h2;have h3:((u+(k:Int)).natAbs:Int)<=R*q:=by omega
  have h4:=ih h1 h3;have h6:((u+(k:Int)+1).natAbs:Int)<=R*q:=by omega
  obtain⟨d,hd,hd2,_,_⟩:=ht q (u+(k:Int)) ⟨hq0,h3,h6⟩ hq;have h5:=Uc hd;have e:u+((k+1:Nat):Int)=u+(k:Int)+1:=by omega
  rw[e];omega
theorem Sw(p:List Int)(x q c:Int)(hc:0<c):Cz (Hh p (c*x) (c*q))=Cz (Hh p x q):=by
 have e:∀ T,hs (fun i=>p.getD i 0) (c*x) (c*q) T=c^T*hs (fun i=>p.getD i 0) x q T:=by
  intro T;induction T with
  | zero=>simp[hs]
  | succ T ih =>
   simp only[hs];rw[ih,Qu,Ax c T];grind
 have hp:0<c^(p.length-1):=EF hc;unfold Hh Go.Ai.hp;rw[e];generalize hs (fun i=>p.getD i 0) x q (p.length-1)=H;generalize c^(p.length-1)=C at *
 unfold Cz;by_cases h1:H<0
 ·have:=Ir hp h1;rw[if_pos this,if_pos h1]
 ·by_cases h2:0<H
  ·have:=Ba hp h2;rw[if_neg (by omega),if_neg h1,if_pos this,if_pos h2]
  ·have:H=0:=by omega
   rw[this];simp
theorem HN(l:List (List Int))(x q c:Int)(hc:0<c):D0 l (c*x) (c*q)=D0 l x q:=by
 unfold D0;exact F_ fun p _=>Sw p x q c hc
theorem Z6{f:List Int}(lf:BN f)(hl:2<=f.length):(Aq f).length=f.length-1:=by
 have ht:=Eo lf (by intro h;rw[h] at hl;simp at hl);unfold Aq;have hL:BN ((Ao (f.length-1)).map fun j=>f.getD (j+1) 0*((j+1:Nat):Int)):=by
  refine Od (.inr ?_);rw[N,B6,GN,if_pos (by omega),show f.length-1-1+1=f.length-1 by omega];exact AG ht (by omega)
 rw[hL,N,B6]
theorem HW{p:List Int}(hp:Y p ≠ [])(hl:2<=(Ab p).length):BN (Ab p)/\(prim (Aq (Ab p))).length=(Ab p).length-1/\DY [1] (Ab p) (prim (Aq (Ab p)))/\0<AO (Aq (Ab p)):=by
 obtain⟨lf,cf,tf,f0,_,_,_,h1⟩:=Cj hp;generalize Ab p=f at *
 have hd:=Z6 lf hl;have ld:BN (Aq f):=HH _;have hd0:Y (Aq f) ≠ []:=by rw[ld];intro h;rw[h] at hd;simp at hd;omega
 have hG:=FT f (Aq f);obtain⟨c,hc⟩:=LS h1;have tG:=OL (t:=Aq f) (CU lf f0);rw[hc] at hG tG;have hc0:0<c:=tG;refine⟨lf,by rw[BB,ld,hd],?_,HS hd0⟩;have h2:DY [1] f (Aq f):=hG.gscaled (m:=c) (n:=1) (by omega) (by decide) (fun x=>by simp[Aa]);obtain⟨m,hm,hm2⟩:=HL (Aq f);exact h2.scaled (m:=1) (n:=1) (k:=m) (l:=1) (by decide) (by decide) hm (by decide) (fun x=>rfl) (fun x=>by rw[<- hm2 x];omega)
def Cv(p:List Int):List (List Int):=if Ab p=[] then [] else Ab p::GW (Ab p).length (Ab p) (prim (Aq (Ab p)))
theorem Jj(p:List Int){x y q:Int}(hq:0<q)(hxy:x<=y):wv 0 (D0 (Cv p) y q)<=wv 0 (D0 (Cv p) x q):=by
 unfold Cv;by_cases h0:Ab p=[]
 ·rw[if_pos h0];exact Dp _
 ·rw[if_neg h0];have hp:Y p ≠ []:=by
   intro h;have hz:prim p=[]:=by rw[Do,<- CL];exact h
   apply h0;unfold Ab;rw[hz];rfl
  have hpos:=Aj.2 h0;by_cases hl:2<=(Ab p).length
  ·obtain⟨lf,hl1,hG,hc⟩:=HW hp hl;obtain⟨Q0,hQ0,hm⟩:=gD ((x.natAbs:Int)+(y.natAbs:Int)) (by omega) lf hl hl1 hG hc (Ab p).length (by omega);have h1:(0:Int)<Q0*q:=Ba hQ0 hq;have hQq:Q0<=Q0*q:=by
    have:=Ag (show (1:Int)<=q by omega) (show 0<=Q0 by omega);omega
   have hb:∀ z:Int,(z.natAbs:Int)<=(x.natAbs:Int)+(y.natAbs:Int)->((Q0*z).natAbs:Int)<=((x.natAbs:Int)+(y.natAbs:Int))*(Q0*q):=by
    intro z hz;have h2:=CY (a:=Q0) (A:=Q0*q) (by omega) hz;have e:Q0*q*((x.natAbs:Int)+(y.natAbs:Int))=((x.natAbs:Int)+(y.natAbs:Int))*(Q0*q):=A8 ..;omega
   have hd:0<=Q0*(y-x):=A3 (by omega) (by omega);have e1:Q0*x+((Q0*(y-x)).toNat:Int)=Q0*y:=by rw[iK hd,EG];omega
   have h3:=hm (Q0*q) (Q0*x) h1 hQq (Q0*(y-x)).toNat (hb x (by omega)) (by rw[e1];exact hb y (by omega));rw[e1,HN _ _ _ _ hQ0,HN _ _ _ _ hQ0] at h3;exact h3
  ·have hl1:(Ab p).length=1:=by omega
   have hz:prim (Aq (Ab p))=[]:=by
    rw[Do];intro i;rw[C_,Bs (by omega),CJ]
   have e:GW (Ab p).length (Ab p) (prim (Aq (Ab p)))=[]:=by rw[hl1,hz];rfl
   rw[e];have eh:∀ z,Hh (Ab p) z q=(Ab p).getD 0 0:=fun z=>by unfold Hh Go.Ai.hp;rw[hl1];rfl
   unfold D0;simp only[Cw,FK];rw[eh,eh];exact Dp _
theorem DI{n:Int}:Cz n=0↔n=0:=by unfold Cz; (repeat' split) <;> omega
theorem Io{n:Int}:Cz n=1↔0<n:=by unfold Cz; (repeat' split) <;> omega
theorem Ip{n:Int}:Cz n = -1↔n<0:=by unfold Cz; (repeat' split) <;> omega
def Nh(f g:List Int)(W:Int->Int)(q x:Int):Prop :=
 (Cz (Hh f (x+1) q)=Cz (Hh f x q)/\Hh f x q ≠ 0/\W x=W (x+1)) \/
 ((Cz (Hh g x q)=1\/Cz (Hh g x q) = -1)/\Cz (Hh g (x+1) q)=Cz (Hh g x q) /\
  ((Hh f x q=0/\Cz (Hh f (x+1) q)=Cz (Hh g x q)/\W x=W (x+1)) \/
  (Cz (Hh f x q) = -Cz (Hh g x q)/\(Hh f (x+1) q=0\/Cz (Hh f (x+1) q)=Cz (Hh g x q))/\W x=W (x+1)+1)))
theorem cell{f:List Int}(R:Int)(hR:0<=R)(lf:BN f)(hl:2<=f.length)(hl1:(prim (Aq f)).length=f.length-1)(h:DY [1] f (prim (Aq f)))(hc:0<AO (Aq f))(n:Nat)(hn:f.length-1<=n) :
  ∃ Q0:Int,0<Q0/\∀ q x:Int,Wu R q x->Q0<=q->Nh f (prim (Aq f)) (fun y=>wv 0 (D0 (f::GW n f (prim (Aq f))) y q)) q x:=by
 obtain⟨Q1,hQ1,t1⟩:=OS R hR lf hl hl1 h hc n hn;obtain⟨L,Q2,hL,hQ2,p2⟩:=OR R hR h;obtain⟨Q3,hQ3,p3⟩:=T0 R hR hl hl1 h hc;refine⟨Q1+Q2+Q3,by omega,fun q x hr hq => ?_⟩;obtain⟨d,hd,hd2,hd3,hd4⟩:=t1 q x hr (by omega);have hw:=Uc hd;unfold Nh;by_cases hst:JB f x q
 ·left;obtain⟨g1,g2⟩:=K3 hst;have hd0:d=0:=by
   rcases hd2 with e | e
   ·exact e
   ·exact absurd hst (hd3 e).1
  refine⟨g1,fun h0 => ?_,by show wv 0 _=wv 0 _;omega⟩;rw[h0] at g2;exact absurd g2 (by decide)
 ·right;obtain⟨hs1,_⟩:=p2 q x hr (by omega) hst;obtain⟨g1,g2⟩:=K3 hs1;obtain⟨r1,r2⟩:=p3 q x hr (by omega) hst;refine⟨g2,g1,?_⟩;by_cases h0:Hh f x q=0
  ·left;have hd0:d=0:=by
    rcases hd2 with e | e
    ·exact e
    ·exact absurd h0 (hd3 e).2
   refine⟨h0,?_,by show wv 0 _=wv 0 _;omega⟩;rcases g2 with k | k
   ·have:=r1 (Io.1 k);rw[k,Io];omega
   ·have:=r2 (Ip.1 k);rw[k,Ip];omega
  ·right;have hd1:d=1:=by
    rcases hd2 with e | e
    ·rcases hd4 e with k | k
     ·exact absurd k hst
     ·exact absurd k h0
    ·exact e
   unfold JB at hst;rcases g2 with k | k
   ·have:=r1 (Io.1 k);refine⟨by rw[k,Ip];omega,?_,by show wv 0 _=wv 0 _+1;omega⟩;by_cases hz:Hh f (x+1) q=0
    ·exact .inl hz
    ·right;rw[k,Io];omega
   ·have:=r2 (Ip.1 k);refine⟨by rw[k];show _=1;rw[Io];omega,?_,by show wv 0 _=wv 0 _+1;omega⟩;by_cases hz:Hh f (x+1) q=0
    ·exact .inl hz
    ·right;rw[k,Ip];omega
theorem Nh.mono{f g:List Int}{W:Int->Int}{q x:Int}(h:Nh f g W q x):W (x+1)<=W x:=by
 rcases h with ⟨_,_,h⟩ | ⟨_,_,⟨_,_,h⟩ | ⟨_,_,h⟩⟩ <;> omega
theorem Nh.root{f g:List Int}{W:Int->Int}{q x:Int}(h:Nh f g W q x)(h0:Hh f (x+1) q=0):W x=W (x+1)+1:=by
 have e:Cz (Hh f (x+1) q)=0:=DI.2 h0;rcases h with ⟨h1,h2,_⟩ | ⟨h1,_,⟨_,h3,_⟩ | ⟨_,_,h⟩⟩
 ·rw[e] at h1;exact absurd (DI.1 h1.symm) h2
 ·omega
 ·exact h
def Par(f g:List Int)(W:Int->Int)(q u v:Int):Prop :=
 (Hh f v q ≠ 0/\Cz (Hh f v q)=(if (W u-W v) % 2=0 then 1 else -1)*Cz (Hh f u q)) \/
 (Hh f v q=0/\Cz (Hh g v q)=(if (W u-W v) % 2=0 then 1 else -1)*Cz (Hh f u q))
theorem Wv{f g:List Int}{W:Int->Int}{q u:Int}(h0:Hh f u q ≠ 0):∀ k:Nat,(∀ j:Nat,j<k->Nh f g W q (u+(j:Int)))->Par f g W q u (u+(k:Int))
 | 0,_=>by
  left;rw[show u+((0:Nat):Int)=u by omega];exact⟨h0,by rw[if_pos (by omega),CO]⟩
 | k+1,hc=>by
  have ih:=Wv h0 k (fun j hj=>hc j (by omega));have c:=hc k (by omega);have e:u+((k+1:Nat):Int)=u+(k:Int)+1:=by omega
  rw[e];have hu:Cz (Hh f u q)=1\/Cz (Hh f u q) = -1:=by
   have:=Z5 (Hh f u q);have:Cz (Hh f u q) ≠ 0:=fun hh=>h0 (DI.1 hh);omega
  generalize u+(k:Int)=v at *
  unfold Par at ih |-;rcases c with ⟨c1,c2,c3⟩ | ⟨c1,c2,⟨c3,c4,c5⟩ | ⟨c3,c4,c5⟩⟩
  ·rw[<- c3];rcases ih with ⟨i1,i2⟩ | ⟨i1,_⟩
   ·left;refine⟨fun hz => ?_,by rw[c1];exact i2⟩;rw[hz] at c1;exact i1 (DI.1 c1.symm)
   ·exact absurd i1 c2
  ·rw[<- c5];rcases ih with ⟨i1,_⟩ | ⟨_,i2⟩
   ·exact absurd c3 i1
   ·left;refine⟨fun hz => ?_,by rw[c4];exact i2⟩;rw[hz] at c4;have:Cz 0=0:=rfl;omega
  ·have i2:Cz (Hh f v q)=(if (W u-W v) % 2=0 then 1 else -1)*Cz (Hh f u q):=by
    rcases ih with ⟨_,i2⟩ | ⟨i1,_⟩
    ·exact i2
    ·rw[i1] at c3;have:Cz 0=0:=rfl;omega
   have flip:Cz (Hh g v q)=(if (W u-W (v+1)) % 2=0 then 1 else -1)*Cz (Hh f u q):=by
    by_cases hp:(W u-W v) % 2=0
    ·rw[if_pos hp] at i2;rw[if_neg (by omega)];omega
    ·rw[if_neg hp] at i2;rw[if_pos (by omega)];omega
   rcases c4 with c4 | c4
   ·right;exact⟨c4,by rw[c2];exact flip⟩
   ·left;refine⟨fun hz => ?_,by rw[c4];exact flip⟩;rw[hz] at c4;have:Cz 0=0:=rfl;omega
theorem Ou{f g:List Int}{W:Int->Int}{q u:Int}:∀ k:Nat,(∀ j:Nat,j<k->Nh f g W q (u+(j:Int)))->W (u+(k:Int))<=W u
 | 0,_=>by simp
 | k+1,hc=>by
  have ih:=Ou k (fun j hj=>hc j (by omega));have:=(hc k (by omega)).mono;have e:u+((k+1:Nat):Int)=u+(k:Int)+1:=by omega
  rw[e];omega
theorem A4m(p:List Int)(hp:Y p ≠ [])(hl:2<=(Ab p).length){x y q:Int}(hq:0<q):∃ c:Int,0<c/\∀ z:Int,c*x<=z->z<c*y->Nh (Ab p) (prim (Aq (Ab p))) (fun z=>wv 0 (D0 (Cv p) z (c*q))) (c*q) z:=by
 obtain⟨lf,hl1,hG,hc⟩:=HW hp hl;have h0:Ab p ≠ []:=by intro h;rw[h] at hl;simp at hl
 obtain⟨Q0,hQ0,hm⟩:=cell ((x.natAbs:Int)+(y.natAbs:Int)) (by omega) lf hl hl1 hG hc (Ab p).length (by omega);refine⟨Q0,hQ0,fun z h1 h2 => ?_⟩;have hQq:Q0<=Q0*q:=by
  have:=Ag (show (1:Int)<=q by omega) (show 0<=Q0 by omega);omega
 have hb:∀ z:Int,(z.natAbs:Int)<=(x.natAbs:Int)+(y.natAbs:Int)->((Q0*z).natAbs:Int)<=((x.natAbs:Int)+(y.natAbs:Int))*(Q0*q):=by
  intro z hz;have h2:=CY (a:=Q0) (A:=Q0*q) (by omega) hz;have e:Q0*q*((x.natAbs:Int)+(y.natAbs:Int))=((x.natAbs:Int)+(y.natAbs:Int))*(Q0*q):=A8 ..;omega
 have bx:=hb x (by omega);have by':=hb y (by omega);have e:Cv p=Ab p::GW (Ab p).length (Ab p) (prim (Aq (Ab p))):=by unfold Cv;rw[if_neg h0]
 rw[e];exact hm (Q0*q) z ⟨Ba hQ0 hq,by omega,by omega⟩ hQq
theorem gF(p:List Int)(hp:Y p ≠ [])(hl:2<=(Ab p).length){x m y q:Int}(hq:0<q)(hxm:x<m)(hmy:m<y)(h1:wv 0 (D0 (Cv p) x q)-wv 0 (D0 (Cv p) y q)=1) :
  (Hh (Ab p) m q=0->wv 0 (D0 (Cv p) m q)=wv 0 (D0 (Cv p) y q)) /\
  (Hh (Ab p) m q ≠ 0->Hh (Ab p) y q=0->wv 0 (D0 (Cv p) m q)=wv 0 (D0 (Cv p) y q)+1) /\
  (Hh (Ab p) m q ≠ 0->Hh (Ab p) y q ≠ 0->(Cz (Hh (Ab p) m q)=Cz (Hh (Ab p) y q)↔wv 0 (D0 (Cv p) m q)=wv 0 (D0 (Cv p) y q))):=by
 obtain⟨c,hc,hg⟩:=A4m p hp hl (x:=x) (y:=y) hq;have m1:=Jj p hq (A0 hxm);have m2:=Jj p hq (A0 hmy);have sc:∀ z,wv 0 (D0 (Cv p) (c*z) (c*q))=wv 0 (D0 (Cv p) z q):=fun z=>by rw[HN _ _ _ _ hc]
 have hs:∀ z,Cz (Hh (Ab p) (c*z) (c*q))=Cz (Hh (Ab p) z q):=fun z=>Sw _ _ _ _ hc;have d1:c*x+c<=c*m:=by
  have:=Ag (show x+1<=m by omega) (show 0<=c by omega);rw[CE,CN] at this;exact this
 have d2:c*m+c<=c*y:=by
  have:=Ag (show m+1<=y by omega) (show 0<=c by omega);rw[CE,CN] at this;exact this
 have back:∀ a b:Int,c*x<=a->a<b->b<=c*y->Hh (Ab p) b (c*q)=0->wv 0 (D0 (Cv p) b (c*q))+1<=wv 0 (D0 (Cv p) a (c*q)):=by
  intro a b ha hab hb hz;have hcell:=hg (b-1) (by omega) (by omega);have h2:=hcell.root (by rw[show b-1+1=b by omega];exact hz);simp only[show b-1+1=b by omega] at h2;have h3:=Ou (u:=a) (b-1-a).toNat (fun j hj=>hg (a+(j:Int)) (by omega) (by omega));simp only[show a+((b-1-a).toNat:Int)=b-1 by omega] at h3;omega
 refine⟨fun hz => ?_,fun _ hz => ?_,fun hm0 hy0 => ?_⟩
 ·have hz':Hh (Ab p) (c*m) (c*q)=0:=by rw[<- DI,hs,DI];exact hz
  have:=back (c*x) (c*m) (Dp _) (by omega) (by omega) hz';rw[sc,sc] at this;omega
 ·have hz':Hh (Ab p) (c*y) (c*q)=0:=by rw[<- DI,hs,DI];exact hz
  have:=back (c*m) (c*y) (by omega) (by omega) (Dp _) hz';rw[sc,sc] at this;omega
 ·have hm':Hh (Ab p) (c*m) (c*q) ≠ 0:=fun g=>hm0 (by rw[<- DI,<- hs,DI];exact g);have hy':Hh (Ab p) (c*y) (c*q) ≠ 0:=fun g=>hy0 (by rw[<- DI,<- hs,DI];exact g);have hpar:=Wv (g:=prim (Aq (Ab p))) (W:=fun z=>wv 0 (D0 (Cv p) z (c*q))) hm' (c*y-c*m).toNat (fun j hj=>hg (c*m+(j:Int)) (by omega) (by omega));rw[show c*m+((c*y-c*m).toNat:Int)=c*y by omega] at hpar;rcases hpar with ⟨_,e⟩ | ⟨e,_⟩
  ·simp only[sc,hs] at e;have hb:Cz (Hh (Ab p) m q) ≠ 0:=fun g=>hm0 (DI.1 g);constructor
   ·intro heq;apply Az;intro hne;rw[if_neg (by omega)] at e;omega
   ·intro heq;rw[if_pos (by omega)] at e;omega
  ·exact absurd e hy'
end Go.Ai
namespace Go.Proofs.YtajompaehjkgkaaGreat
open Go.Ai
set_option maxRecDepth 100000
open Classical renaming byContradiction->Az
open Decidable renaming decide->B
open Go.Ai.AV renaming bool->A6m,int->A6l,sl->A6n,tup->A6t
open Go.IntKind renaming i64->R,wrap->D
open Int renaming add_mul->GX,eq_of_mul_eq_mul_left->Gw,le_of_eq->FW,le_of_lt->A0,le_refl->Dp,lt_of_mul_lt_mul_left->EU,lt_of_mul_lt_mul_right->E1,mul_assoc->A9,mul_comm->A8,mul_ediv_cancel_left->BP,mul_lt_mul_of_pos_right->B0,mul_pos->Ba,pow_add->BC,pow_pos->EF,pow_succ->Ax,toNat->A,toNat_natCast->F,zero_mul->CJ
open List renaming any_eq_false->WF,drop_eq_getElem_cons->CV,drop_length->JC,getD_eq_getElem?_getD->Z,getElem?_eq_getElem->Af,getElem?_map->C7,getElem_mem->Ds,length_append->AY,length_map->N,length_pos_iff->Aj,map_append->Ef,mem_append->BR,mem_cons->CS,take_length->E3,take_succ_eq_append_getElem->qU
open Nat renaming add_comm->Hn,le_refl->An,pow_add->C8,zero_le->Bv
theorem T1:∀ (f:Nat) (a b:List Int),DC f a b=GW f a b
 | 0,_,_=>rfl
 | f+1,a,b=>by simp only[DC,GW];rw[T1 f]
theorem Rq(p:List Int):BD p=Cv p:=by unfold BD Cv;rw [T1]
theorem A5s(l:List (List Int))(N:Int)(e i:Nat):HU l N e i=Cz (Hh (l.getD i []) N (2^e)):=by
 unfold HU Hh;rw[Z4];rfl
theorem Adv(l:List (List Int))(N:Int)(e:Nat):∀ i,i<=l.length->(BU l N e i).1+wv (BU l N e i).2 (D0 (l.drop i) N (2^e))=wv 0 (D0 l N (2^e)):=by
 intro i;induction i with
 | zero=>intro _;simp[BU]
 | succ i ih =>
  intro hi;rw[<- ih (by omega)];rw[CV (show i<l.length by omega)];have hg:l.getD i []=l[i]:=by rw[Z,Af (by omega)];rfl
  have hs:=A5s l N e i;rw[hg] at hs;show (Qg (BU l N e i) (HU l N e i)).1+wv (Qg (BU l N e i) (HU l N e i)).2 _=(BU l N e i).1+wv (BU l N e i).2 (Cz (Hh l[i] N (2^e))::_);rw[<- hs];generalize BU l N e i=x;generalize HU l N e i=s;obtain⟨n,last⟩:=x;simp only[Qg,wv];by_cases h0:s=0
  ·rw[if_neg (fun h=>h.1 h0),if_neg (fun h=>h h0),if_pos h0];rfl
  ·rw[if_neg h0,if_pos h0];by_cases h1:last ≠ 0/\s ≠ last
   ·rw[if_pos ⟨h0,h1⟩,if_pos h1];show n+1+wv s (D0 (l.drop (i+1)) N (2^e))=n+(1+wv s (D0 (l.drop (i+1)) N (2^e)));omega
   ·rw[if_neg (fun h=>h1 h.2),if_neg h1];show n+wv s (D0 (l.drop (i+1)) N (2^e))=n+(0+wv s (D0 (l.drop (i+1)) N (2^e)));omega
def Vd(p:List Int)(x:Int)(a:Nat):Int:=(BU (BD p) x a (BD p).length).1
theorem Hv(p:List Int)(x:Int)(a:Nat):Vd p x a=wv 0 (D0 (Cv p) x (2^a)):=by
 have h:=Adv (BD p) x a (BD p).length (An _);rw[JC,Rq] at h;unfold Vd;rw[Rq];have:wv (BU (Cv p) x a (Cv p).length).2 (D0 [] x (2^a))=0:=rfl;omega
theorem BT(n:Nat):(0:Int)<2^n:=EF (by decide)
theorem FV(p:List Int)(x:Int)(a c:Nat):Vd p (x*2^c) (a+c)=Vd p x a:=by
 rw[Hv,Hv,A8 x,show (2:Int)^(a+c)=2^c*2^a by rw[BC,A8],HN _ _ _ _ (BT c)]
theorem L1{p:List Int}{x y:Int}{a b:Nat}(h:x*2^b<=y*2^a):Vd p y b<=Vd p x a:=by
 rw[<- FV p x a b,<- FV p y b a,Hn b a,Hv,Hv];exact Jj p (BT _) h
theorem Auj{p:List Int}{x y:Int}{a b:Nat}(h:x*2^b=y*2^a):Vd p x a=Vd p y b :=
 Int.le_antisymm (L1 (FW h.symm)) (L1 (FW h))
theorem Rr(p:List Int)(x:Int)(a:Nat):ES p x a=Cz (Hh p x (2^a)):=by unfold ES Hh;rw [Z4];rfl
theorem Qj(p:List Int)(x:Int)(a c:Nat):ES p (x*2^c) (a+c)=ES p x a:=St (by rw [BC];grind)
theorem Yv{p:List Int}(h:(Ab p).length<2)(x y:Int)(a b:Nat):Vd p x a=Vd p y b:=by
 have e:∀ x a,Vd p x a=0:=by
  intro x a;rw[Hv];unfold Cv;by_cases h0:Ab p=[]
  ·rw[if_pos h0];rfl
  ·rw[if_neg h0];have hz:prim (Aq (Ab p))=[]:=by
    rw[Do];intro i;rw[C_,Bs (by omega),CJ]
   have hl1:(Ab p).length=1:=by have:=Aj.2 h0;omega
   have e:GW (Ab p).length (Ab p) (prim (Aq (Ab p)))=[]:=by rw[hl1,hz];rfl
   rw[e];show wv 0 [_]=0;simp only[wv];split
   ·rfl
   ·rw[if_neg (fun h=>h.1 rfl)];rfl
 rw[e,e]
theorem half{p:List Int}{x m y:Int}{a c b:Nat}(h1:x*2^c<m*2^a)(h2:m*2^b<y*2^c)(hV:Vd p x a-Vd p y b=1) :
  (ES (Ab p) m c=0->Vd p m c=Vd p y b)/\(ES (Ab p) m c ≠ 0->ES (Ab p) y b=0->Vd p m c=Vd p y b+1) /\
  (ES (Ab p) m c ≠ 0->ES (Ab p) y b ≠ 0->(ES (Ab p) m c=ES (Ab p) y b↔Vd p m c=Vd p y b)):=by
 have hl:2<=(Ab p).length:=by
  apply Az;intro g;have:=Yv (p:=p) (by omega) x y a b;omega
 have hp:Y p ≠ []:=by
  intro h;have hz:prim p=[]:=by rw[Do,<- CL];exact h
  have h0:Ab p=[]:=by unfold Ab;rw[hz];rfl
  rw[h0] at hl;simp at hl
 have e1:=FV p x a (c+b);have e2:=FV p m c (a+b);have e3:=FV p y b (a+c);have g2:=Qj (Ab p) m c (a+b);have g3:=Qj (Ab p) y b (a+c);rw[show a+(c+b)=a+b+c by omega,Hv] at e1;rw[show c+(a+b)=a+b+c by omega,Hv] at e2;rw[show b+(a+c)=a+b+c by omega,Hv] at e3;rw[show c+(a+b)=a+b+c by omega,Rr] at g2;rw[show b+(a+c)=a+b+c by omega,Rr] at g3;have i1:x*2^(c+b)<m*2^(a+b):=by
  have:=B0 h1 (BT b);rw[BC,BC,<- A9,<- A9];exact this
 have i2:m*2^(a+b)<y*2^(a+c):=by
  have:=B0 h2 (BT a);rw[BC,BC,A8 (2^a) (2^b),A8 (2^a) (2^c),<- A9,<- A9];exact this
 obtain⟨s1,s2,s3⟩:=gF p hp hl (BT (a+b+c)) i1 i2 (by rw[e1,e3];exact hV);rw[e2,e3] at s1 s2 s3;rw[g2,g3] at s3;have z2:Hh (Ab p) (m*2^(a+b)) (2^(a+b+c))=0↔ES (Ab p) m c=0:=by rw[<- g2,DI]
 have z3:Hh (Ab p) (y*2^(a+c)) (2^(a+b+c))=0↔ES (Ab p) y b=0:=by rw[<- g3,DI]
 exact⟨fun h=>s1 (z2.2 h),fun h h'=>s2 (fun g=>h (z2.1 g)) (z3.2 h'),fun h h'=>s3 (fun g=>h (z2.1 g)) (fun g=>h' (z3.1 g))⟩
theorem MR{x y:Int}{a b:Nat}(h:x*2^b<y*2^a):x*2^Nf x a y b<Py x a y b*2^a/\Py x a y b*2^b<y*2^Nf x a y b:=by
 have hz:=Oj (max a b+1) (In x a y b);obtain⟨N,hN⟩:=Kh (max a b+1) (In x a y b);have hS:In x a y b=x*2^(max a b-a)+y*2^(max a b-b):=rfl;unfold Py Nf;generalize In x a y b=S at *
 generalize DD S (max a b+1)=z at *
 have pz:=BT z;have e:S / 2^z=N:=by rw[hN];exact BP _ (by omega)
 rw[e];obtain⟨k,hk⟩:∃ k,max a b+1=z+k:=⟨max a b+1-z,by omega⟩;rw[show max a b+1-z=k by omega];have hz2:(2:Int)^z*2^k=2*2^max a b:=by rw[<- BC,<- hk,Ax,A8]
 have ea:(2:Int)^max a b=2^(max a b-a)*2^a:=by rw[<- BC];congr 1;omega
 have eb:(2:Int)^max a b=2^(max a b-b)*2^b:=by rw[<- BC];congr 1;omega
 have pa:=BT (max a b-a);have pb:=BT (max a b-b);have pA:=BT a;have pB:=BT b;have pk:=BT k;generalize (2:Int)^max a b=M at *
 generalize (2:Int)^(max a b-a)=u at *
 generalize (2:Int)^(max a b-b)=v at *
 generalize (2:Int)^a=A at *
 generalize (2:Int)^b=B at *
 generalize (2:Int)^z=Z at *
 generalize (2:Int)^k=K at *
 have huv:x*u<y*v:=by
  have h3:x*B*(u*v)<y*A*(u*v):=B0 h (Ba pa pb);have e3:x*B*(u*v)=x*u*M:=by rw[eb];grind
  have e4:y*A*(u*v)=y*v*M:=by rw[ea];grind
  rw[e3,e4] at h3;exact E1 h3 (by rw[ea];exact A0 (Ba pa pA))
 constructor
 ·have h4:Z*(x*K)<Z*(N*A):=by
   have e5:Z*(x*K)=x*u*(2*A):=by
    have:Z*(x*K)=x*(Z*K):=by grind
    rw[this,hz2,ea];grind
   have e6:Z*(N*A)=(x*u+y*v)*A:=by rw[<- hS,hN];grind
   have h5:=B0 (show x*u+x*u<x*u+y*v by omega) pA;rw[e5,e6];have:x*u*(2*A)=(x*u+x*u)*A:=by grind
   rw[this];exact h5
  exact EU h4 (A0 pz)
 ·have h4:Z*(N*B)<Z*(y*K):=by
   have e5:Z*(y*K)=y*v*(2*B):=by
    have:Z*(y*K)=y*(Z*K):=by grind
    rw[this,hz2,eb];grind
   have e6:Z*(N*B)=(x*u+y*v)*B:=by rw[<- hS,hN];grind
   have h5:=B0 (show x*u+y*v<y*v+y*v by omega) pB;rw[e5,e6];have:y*v*(2*B)=(y*v+y*v)*B:=by grind
   rw[this];exact h5
  exact EU h4 (A0 pz)
theorem Jk{x y:Int}{a b:Nat}:Dd x a y b = -1↔x*2^b<y*2^a:=by unfold Dd CC; (repeat' split) <;> omega
theorem LZ{x y:Int}{a b:Nat}:Dd x a y b=1↔y*2^a<x*2^b:=by unfold Dd CC; (repeat' split) <;> omega
structure One (p:List Int) (x:Iv):Prop where
 lt:O x.r*2^x.b<O x.t*2^x.a
 v:Vd p (O x.r) x.a-Vd p (O x.t) x.b=1
theorem gG{p:List Int}{x:Iv}(h:One p x){m:Int}{c:Nat}(h1:O x.r*2^c<m*2^x.a)(h2:m*2^x.b<O x.t*2^c) :
  (G3 (Ab p) (O x.r) x.a (O x.t) x.b m c<=0↔Vd p m c=Vd p (O x.t) x.b)/\(¬ G3 (Ab p) (O x.r) x.a (O x.t) x.b m c<=0↔Vd p m c=Vd p (O x.t) x.b+1):=by
 obtain⟨k1,k2,k3⟩:=half h1 h2 h.v;have m1:Vd p m c<=Vd p (O x.r) x.a:=L1 (A0 h1);have m2:Vd p (O x.t) x.b<=Vd p m c:=L1 (A0 h2);have hv:=h.v;have e1:¬ Dd m c (O x.r) x.a<=0:=by
  rw[LZ.2 h1];decide
 have e2:¬ Dd m c (O x.t) x.b>0:=by
  rw[Jk.2 h2];decide
 have key:G3 (Ab p) (O x.r) x.a (O x.t) x.b m c<=0↔Vd p m c=Vd p (O x.t) x.b:=by
  unfold G3;rw[if_neg e1,if_neg e2];by_cases c1:ES (Ab p) m c=0
  ·rw[if_pos c1];exact⟨fun _=>k1 c1,fun _=>Dp _⟩
  ·rw[if_neg c1];by_cases c2:ES (Ab p) (O x.t) x.b=0
   ·have:=k2 c1 c2;rw[if_neg (by rw[c2];exact c1)];constructor <;> intro g <;> omega
   ·have:=k3 c1 c2;by_cases c3:ES (Ab p) m c=ES (Ab p) (O x.t) x.b
    ·rw[if_pos c3];exact⟨fun _=>this.1 c3,fun _=>by decide⟩
    ·rw[if_neg c3];exact⟨fun g=>absurd g (by decide),fun g=>absurd (this.2 g) c3⟩
 refine⟨key,?_⟩;rw[key];omega
theorem One.half{p:List Int}{x:Iv}(h:One p x):One p (stp (Ab p) x):=by
 obtain⟨b1,b2⟩:=MR h.lt;have hne:Dd (O x.r) x.a (O x.t) x.b ≠ 0:=by rw[Jk.2 h.lt];decide
 obtain⟨s1,s2⟩:=gG h b1 b2;have hv:=h.v;unfold stp;rw[if_neg hne];split
 ·rename_i g;have e:=s1.1 g;refine⟨?_,?_⟩
  ·show O x.r*2^x.me<O (cn x.mn)*2^x.a;rw[u];exact b1
  ·show Vd p (O x.r) x.a-Vd p (O (cn x.mn)) x.me=1;rw[u];have:Vd p x.mn x.me=Vd p (O x.t) x.b:=e;omega
 ·rename_i g;have e:=s2.1 g;refine⟨?_,?_⟩
  ·show O (cn x.mn)*2^x.b<O x.t*2^x.me;rw[u];exact b2
  ·show Vd p (O (cn x.mn)) x.me-Vd p (O x.t) x.b=1;rw[u];have:Vd p x.mn x.me=Vd p (O x.t) x.b+1:=e;omega
theorem One.halves{p:List Int}{x:Iv}(h:One p x):∀ n,One p (stpN (Ab p) x n)
 | 0=>h
 | n+1=>(One.halves h n).half
def sc(x:Int)(a k:Nat):Int:=x*2^k / 2^a
def Iv.lo(x:Iv)(k:Nat):Int:=sc (O x.r) x.a k
def Iv.hi(x:Iv)(k:Nat):Int:=sc (O x.t) x.b k
section
variable {p:List Int} (hp:Om p) {C m:Nat} {x:Iv} (h:IvOk C m x) {k:Nat} (hk:k<=64)
include hp h hk
omit hp in
end
section
variable {p q:List Int} (hp:Om p) (hq:Om q) {C m:Nat} {x y:Iv} (hx:IvOk C m x) (hy:IvOk C m y)
include hp hq hx hy
omit hp hq in
end
structure Apart (p q:List Int) (x y:Iv) (n:Nat) (z:Int):Prop where
 no:∀ i,i<n->¬ Dd (O (stpN p x i).t) (stpN p x i).b (O (stpN q y i).r) (stpN q y i).a<=0/\¬ Dd (O (stpN q y i).t) (stpN q y i).b (O (stpN p x i).r) (stpN p x i).a<=0
 yes:(z = -1/\Dd (O (stpN p x n).t) (stpN p x n).b (O (stpN q y n).r) (stpN q y n).a<=0)\/(z=1/\¬ Dd (O (stpN p x n).t) (stpN p x n).b (O (stpN q y n).r) (stpN q y n).a<=0/\Dd (O (stpN q y n).t) (stpN q y n).b (O (stpN p x n).r) (stpN p x n).a<=0)
section
variable {p q:List Int} (hp:Om p) (hq:Om q) {C m:Nat} {x y:Iv} (hx:IvOk C m x) (hy:IvOk C m y)
include hp hq hx hy
end
theorem pN{rs:List Rn}(hg:∀ r∈rs,AN 5 r)(hn:rs.length<=9){r t:Rn}(hr:AN 100 r)(ht:AN 100 t){a b:Nat}(ha:a<=4096)(hb:b<=4096) :
  H I 136 [sL pc rs,A6 r (a:Nat),A6 t (b:Nat)] (A6l R (Rl (M rs) (O r) a (O t) b)):=by
 have hch:=Lh hg hn;have hnice:=Im hg hn;have hlen:=GT hg hn;have x1:=Fv hnice hr a (by omega) (by omega);have x2:=Fv hnice ht b (by omega) (by omega);have k:=Aua rs _ r t (a:Nat) (b:Nat) _ _ hch x1 x2;rw[Ol (by omega)] at k;exact k
def Yw(r:Rn)(e:Int):Bool:=decide (e>=0)&&decide (e<=64)&&decide (D4 (O r).natAbs<=128)
theorem gH{r:Rn}{e:Int}(hr:AN 100 r):H I 54 [A6 r e] (A6m (Yw r e)):=by
 have hb:=MB (neg:=r.1) hr.1 (by have:=hr.2;omega);unfold Yw;by_cases c1:e>=0
 ·by_cases c2:e<=64
  ·have k:=Adj r e _ (decide_eq_true c1) (decide_eq_true c2) hb;have ez:decide (((D4 (O r).natAbs:Nat):Int)<=128)=decide (D4 (O r).natAbs<=128):=decide_eq_decide.2 (by omega);rw[decide_eq_true c1,decide_eq_true c2];show H _ _ _ (A6m (B (D4 (O r).natAbs<=128)));rw[<- ez];exact k
  ·rw[decide_eq_true c1,decide_eq_false c2];exact Adk r e (decide_eq_true c1) (decide_eq_false c2)
 ·rw[decide_eq_false c1];exact Adl r e (decide_eq_false c1)
def Iv.d(p:List Int)(x:Iv):Int:=Vd p (O x.r) x.a-Vd p (O x.t) x.b
def Iv.lf(x:Iv):Iv:=⟨x.r,x.a,cn x.mn,x.me⟩
def Iv.rg(x:Iv):Iv:=⟨cn x.mn,x.me,x.t,x.b⟩
def Iq(p:List Int):Nat->Iv->List Iv
 | 0,x=>if x.d p=0 then [] else [x]
 | n+1,x=>if x.d p=0 then [] else if x.d p=1 then [x] else Iq p n x.lf++Iq p n x.rg
def Deep(p:List Int)(E:Nat):Nat->Iv->Prop
 | 0,x=>x.d p=0\/x.d p=1
 | n+1,x=>x.d p=0\/x.d p=1\/(x.me<=E/\Deep p E n x.lf/\Deep p E n x.rg)
def Gr(p:List Int)(x:Iv):Rt:=⟨p.map cn,x.r,(x.a:Nat),x.t,(x.b:Nat)⟩
theorem Auk{C m:Nat}{x:Iv}(h:IvOk C m x)(hC:C+m+1<3000):IvOk C (m+1) x.lf/\IvOk C (m+1) x.rg/\AN 100 (cn x.mn)/\x.me<=m+1:=by
 obtain⟨gr,gt,ha,hb,vr,vt⟩:=h;have e2:x.me<=max x.a x.b+1:=OO;have e3:x.mn.natAbs<=2^C*2^x.me:=Ua vr vt;have hf:AN 100 (cn x.mn):=B9 (Gd (k:=C+x.me) (by rw[C8];exact e3) (by omega));refine⟨⟨gr,hf,by show x.a<=_;omega,by show x.me<=_;omega,vr,by show (O (cn x.mn)).natAbs<=_;rw[u];exact e3⟩,⟨hf,gt,by show x.me<=_;omega,by show x.b<=_;omega,by show (O (cn x.mn)).natAbs<=_;rw[u];exact e3,vt⟩,hf,by omega⟩
theorem Ov{p:List Int}(hl:(BD p).length<=10)(x:Int)(a:Nat):0<=Vd p x a/\Vd p x a<=10:=by
 have:=Kf (BD p) x a (BD p).length;unfold Vd;omega
section
variable {p:List Int} (hnice:∀ q∈BD p,sM q) (hlen:(BD p).length<=10) (h1:0<(BD p).length) (hfr:(BD p).getD 0 []=Ab p) {E:Nat} (hE:E<=1000000)
include hnice hlen h1 hfr hE
theorem pO:∀ (n:Nat) (x:Iv) (C m:Nat),IvOk C m x->C+m+n+1<3000->Deep p E n x->(Iq p n x).length<=1000*1000 ->
  H I 105 [A6n (Dm (BD p)).length (pp (Dm (BD p))),A6 x.r (x.a:Nat),A6 x.t (x.b:Nat),A6l R (Vd p (O x.r) x.a),A6l R (Vd p (O x.t) x.b),A6l R (E:Nat)]
   (.frs (.tp true) 7 (Iq p n x).length (G4 ((Iq p n x).map (Gr (Ab p))))):=by
 intro n;induction n with
 | zero =>
  intro x C m hx hC hd _;have b1:=Ov hlen (O x.r) x.a;have b2:=Ov hlen (O x.t) x.b;have ew:D R (Vd p (O x.r) x.a-Vd p (O x.t) x.b)=Iv.d p x:=Bg (by omega) (by omega);simp only[Iq];rcases hd with hd | hd
  ·rw[if_pos hd];exact Wq _ x.r x.t _ _ _ _ _ (by rw[ew,hd];rfl)
  ·rw[if_neg (by omega)];have k:=Wr (Dm (BD p)) x.r x.t (x.a:Nat) (x.b:Nat) _ _ (E:Nat) (by rw[ew,hd];rfl) (by rw[ew,hd];rfl) (by rw[LU];omega);rw[show A 0=0 from rfl,ON h1,hfr] at k;exact k
 | succ n ih =>
  intro x C m hx hC hd hL;have b1:=Ov hlen (O x.r) x.a;have b2:=Ov hlen (O x.t) x.b;have ew:D R (Vd p (O x.r) x.a-Vd p (O x.t) x.b)=Iv.d p x:=Bg (by omega) (by omega);simp only[Iq] at hL |-;by_cases c0:x.d p=0
  ·rw[if_pos c0];exact Wq _ x.r x.t _ _ _ _ _ (by rw[ew,c0];rfl)
  ·rw[if_neg c0] at hL |-;by_cases c1:x.d p=1
   ·rw[if_pos c1];have k:=Wr (Dm (BD p)) x.r x.t (x.a:Nat) (x.b:Nat) _ _ (E:Nat) (by rw[ew,c1];rfl) (by rw[ew,c1];rfl) (by rw[LU];omega);rw[show A 0=0 from rfl,ON h1,hfr] at k;exact k
   ·rw[if_neg c1] at hL |-;rcases hd with hd | hd | ⟨d1,d2,d3⟩
    ·exact absurd hd c0
    ·exact absurd hd c1
    ·obtain⟨S,o2,o3,o4⟩:=Auk hx (by omega);obtain⟨gr,gt,ha,hb,vr,vt⟩:=hx;rw[AY] at hL;have k1:=ih x.lf C (m+1) S (by omega) d2 (by omega);have k2:=ih x.rg C (m+1) o2 (by omega) d3 (by omega);have hm:=Rj (gr.mono (show 100<=200 by omega)) (gt.mono (show 100<=200 by omega)) (a:=x.a) (b:=x.b) (by omega) (by omega);have hv:=Fv hnice o3 x.me (by omega) (by omega);rw[u] at hv;have e1:Vd p (O (cn x.mn)) x.me=Vd p x.mn x.me:=by rw[u]
     have f1:(x.lf).t=cn x.mn:=rfl;have f2:(x.rg).r=cn x.mn:=rfl;rw[f1,show x.lf.b=x.me from rfl,show x.lf.r=x.r from rfl,show x.lf.a=x.a from rfl,e1] at k1;rw[f2,show x.rg.a=x.me from rfl,show x.rg.t=x.t from rfl,show x.rg.b=x.b from rfl,e1] at k2;have k:=pK (Dm (BD p)) x.r x.t (x.a:Nat) (x.b:Nat) _ _ (E:Nat) x.mn (x.me:Nat) _ true true _ _ _ _ (by rw[ew,beq_eq_false_iff_ne];exact c0) (by rw[ew,beq_eq_false_iff_ne];exact c1) (by rw[decide_eq_false_iff_not];omega) rfl (by rw[Tw,N]) (by omega) hm hv k1 k2;rw[AY,Ef,Oo];exact k
end
theorem gI{p:List Int}{C:Nat}:∀ (n:Nat) (x:Iv) (m:Nat),IvOk C m x->C+m+n+1<3000->∀ y∈Iq p n x,IvOk C (m+n) y:=by
 intro n;induction n with
 | zero =>
  intro x m hx _ y hy;simp only[Iq] at hy;split at hy
  ·cases hy
  ·rcases CS.1 hy with rfl | hy
   ·exact hx
   ·cases hy
 | succ n ih =>
  intro x m hx hC y hy;have up:IvOk C (m+(n+1)) x:=⟨hx.gr,hx.gt,by have:=hx.a;omega,by have:=hx.b;omega,hx.vr,hx.vt⟩;simp only[Iq] at hy;split at hy
  ·cases hy
  ·split at hy
   ·rcases CS.1 hy with rfl | hy
    ·exact up
    ·cases hy
   ·obtain⟨S,o2,_,_⟩:=Auk hx (by omega);rcases BR.1 hy with hy | hy
    ·have:=ih x.lf (m+1) S (by omega) y hy;rwa [show m+1+n=m+(n+1) by omega] at this
    ·have:=ih x.rg (m+1) o2 (by omega) y hy;rwa [show m+1+n=m+(n+1) by omega] at this
theorem MS{p:List Int}{K:Nat}(h:Kb K p)(hK:K<=256)(hl:p.length<=17):DP p=false:=by
 have ht:=Bf p;unfold DP;rw[decide_eq_false (by omega),Bool.false_or,WF];intro x hx;have:=(h.trim.mem x hx).len;unfold Yq;simp only[decide_eq_true_eq];omega
def JG(p:List Int)(n:Nat)(x:Iv):List Iv:=if (BD p).length<2 then [] else Iq p n x
def Iv.out(p:List Int)(x:Iv):Rt:=⟨p.map cn,cn (O x.r),(x.a:Nat),cn (O x.t),(x.b:Nat)⟩
theorem Z7{p:List Int}(h:0<(BD p).length):(BD p).getD 0 []=Ab p:=by
 unfold BD at h |-;split at h
 ·simp at h
 ·rename_i g;rw[if_neg g];rfl
section
variable {rs:List Rn} (hg:∀ r∈rs,AN 5 r) (hn:rs.length<=9)
include hg hn
theorem Adw{n:Nat}{x:Iv}{C m:Nat}(hx:IvOk C m x)(hC:C+m+n+1<3000){E:Nat}(hE:E<=1000000)(hd:Deep (M rs) E n x)(hL:(Iq (M rs) n x).length<=1000*1000) :
  H I 56 [sL pc rs,A6 x.r (x.a:Nat),A6 x.t (x.b:Nat),A6l R (E:Nat)] (.frs (.tp true) 7 ((JG (M rs) n x).map (Gr (Ab (M rs)))).length (G4 ((JG (M rs) n x).map (Gr (Ab (M rs)))))) \/
  H I 56 [sL pc rs,A6 x.r (x.a:Nat),A6 x.t (x.b:Nat),A6l R (E:Nat)] (A6t [A6n ((JG (M rs) n x).map (Gr (Ab (M rs)))).length (G4 ((JG (M rs) n x).map (Gr (Ab (M rs))))),A6m true]):=by
 have hch:=Lh hg hn;have hnice:=Im hg hn;have hlen:=GT hg hn;unfold JG;by_cases c:(BD (M rs)).length<2
 ·rw[if_pos c];exact .inl (Adm rs _ x.r x.t _ _ _ (by rw[decide_eq_true_eq,LU];omega) hch)
 ·rw[if_neg c];have x1:=Fv hnice hx.gr x.a (by have:=hx.a;omega) (by omega);have x2:=Fv hnice hx.gt x.b (by have:=hx.b;omega) (by omega);have sp:=pO hnice hlen (by omega) (Z7 (by omega)) hE n x C m hx hC hd hL;rw[N];exact .inr (Adn rs _ x.r x.t _ _ _ _ _ true _ _ (by rw[decide_eq_false_iff_not,LU];omega) hch x1 x2 sp)
theorem Aul(h0:Y (M rs) ≠ [])(hl:DP (M rs)=false){n:Nat}{x:Iv}{C m:Nat}(hx:IvOk C m x)(hC:C+m+n+1<3000)(hd:Deep (M rs) 896 n x)(hL:(Iq (M rs) n x).length<=1000*1000)
  (e1:Yw x.r (x.a:Nat)=true) (e2:Yw x.t (x.b:Nat)=true) (hle:¬ Dd (O x.r) x.a (O x.t) x.b>0) :
  H I 15 [sL pc rs,A6 x.r (x.a:Nat),A6 x.t (x.b:Nat)] (A6t [A6n (JG (M rs) n x).length (G4 ((JG (M rs) n x).map (Iv.out (Ab (M rs))))),A6l R 0]):=by
 have s1:=Li hg (by omega) (by omega);rw[hl] at s1;have dg:=GL (fun r h=>(hg r h).mono (by omega)) (show rs.length<=1048576 by omega);have htl:=Fs (M rs);rw[s] at htl;have hpos:=Aj.2 h0;have y1:=gH (e:=(x.a:Nat)) hx.gr;have y2:=gH (e:=(x.b:Nat)) hx.gt;rw[e1] at y1;rw[e2] at y2;have cm:=LW (hx.gr.mono (show 100<=200 by omega)) (hx.gt.mono (show 100<=200 by omega)) (a:=x.a) (b:=x.b) (by have:=hx.a;omega) (by have:=hx.b;omega);have ri:=Adw hg hn hx hC (E:=896) (by omega) hd hL;obtain⟨k1,k2⟩:=Yo h0 (by rw[s];exact hn) (HJ (Cs hg));have lf:=(Cj h0).1;have htl2:=Bf (M rs);rw[s] at htl2;have hsm:=Li (rs:=(Ab (M rs)).map cn) (K:=8) (AI k1) (by omega) (by rw[N];omega);rw[v,MS k1 (by omega) (by omega)] at hsm;have htr:=HI (rs:=(Ab (M rs)).map cn) (fun r h=>(AI k1 r h).mono (show 8<=1048576 by omega)) (by rw[N];omega);rw[v,lf] at htr;have hok:∀ y∈JG (M rs) n x,IvOk C (m+n) y:=by
  unfold JG;split
  ·intro y hy;cases hy
  ·exact gI n x m hx hC
 have hlen:(JG (M rs) n x).length<=1000*1000:=by unfold JG;split <;> simp <;> omega
 generalize JG (M rs) n x=L at *
 generalize hq:Ab (M rs)=q at *
 have step:∀ i,i<L.length->W I U2 (Ng rs (L.map (Gr q)) i (G4 ((L.take i).map (Iv.out q))) ((L.map (Gr q)).length:Nat) (i:Nat)) .norm (Ng rs (L.map (Gr q)) (i+1) (G4 ((L.take (i+1)).map (Iv.out q))) ((L.map (Gr q)).length:Nat) ((i+1:Nat):Int)):=by
  intro i hi;have ei:D R ((i:Int)+1)=((i+1:Nat):Int):=by rw[Bg (by omega) (by omega)];omega
  have hy:=hok L[i] (Ds hi);have eg:(L.map (Gr q)).getD (A (i:Int)) zR=Gr q L[i]:=by
   rw[F,Z,C7,Af hi];rfl
  have gr:=hy.gr;have gt:=hy.gt;have c1:=fD L[i].r (L[i].a:Nat) _ (M8 (neg:=L[i].r.1) gr.1 (by have:=gr.2;omega));have c2:=fD L[i].t (L[i].b:Nat) _ (M8 (neg:=L[i].t.1) gt.1 (by have:=gt.2;omega));have ro:=A0v (q.map cn) L[i].r L[i].t (L[i].a:Nat) (L[i].b:Nat) _ _ _ _ _ (Ec htr) c1 c2;have k:=A1d rs (L.map (Gr q)) i (G4 ((L.take i).map (Iv.out q))) ((L.map (Gr q)).length:Nat) (i:Nat) (q.map cn) (O L[i].r) (L[i].a:Nat) (O L[i].t) (L[i].b:Nat) true (by rw[decide_eq_true_eq,N];omega) rfl (by rw[N];omega) (by omega) (by rw[eg];exact hsm) (by rw[eg];exact ro);have et:G4 ((L.take (i+1)).map (Iv.out q))=G4 ((L.take i).map (Iv.out q))++([A6n (q.map cn).length (pc (q.map cn)),A6m ((cn (O L[i].r)).1),A6n ((cn (O L[i].r)).2.length) (lm (cn (O L[i].r)).2),A6l R (L[i].a:Nat),A6m ((cn (O L[i].t)).1),A6n ((cn (O L[i].t)).2.length) (lm (cn (O L[i].t)).2),A6l R (L[i].b:Nat)]:List AV):=by
   rw[qU hi,Ef,Oo];rfl
  rw[ei] at k;rw[et];exact k
 have lp:=W.up (prog:=I) (c:=U2) (ex := .exit 1) (fin:=Ng rs (L.map (Gr q)) L.length (G4 ((L.take L.length).map (Iv.out q))) ((L.map (Gr q)).length:Nat) (L.length:Int))
  (fun i=>Ng rs (L.map (Gr q)) i (G4 ((L.take i).map (Iv.out q))) ((L.map (Gr q)).length:Nat) (i:Nat)) L.length (by nofun) step (A1e _ _ _ _ _ _ (by rw[decide_eq_false_iff_not,N];omega)) 0 (Bv _)
 rw[E3] at lp;rcases ri with ri | ri
 ·exact fJ rs x.r x.t _ _ _ _ _ true true true true (L.map (Gr q)) _ _ rfl (by rw[decide_eq_false_iff_not];omega) rfl rfl (decide_eq_false hle) rfl s1 dg y1 y2 cm ri lp
 ·exact fK rs x.r x.t _ _ _ _ _ true true true true (L.map (Gr q)) _ _ rfl (by rw[decide_eq_false_iff_not];omega) rfl rfl (decide_eq_false hle) rfl s1 dg y1 y2 cm ri lp
end
section
variable {rs ss:List Rn} (hg:∀ r∈rs,AN 5 r) (hn:rs.length<=9) {x y:Iv} {C m:Nat} (hx:IvOk C m x)
include hg hn hx
end
theorem Aum(x:Int)(a:Nat)(y:Int)(b:Nat):Py x a y b*(2*(2^a*2^b))=(x*2^b+y*2^a)*2^Nf x a y b:=by
 have hz:=Oj (max a b+1) (In x a y b);obtain⟨N,hN⟩:=Kh (max a b+1) (In x a y b);have hS:In x a y b=x*2^(max a b-a)+y*2^(max a b-b):=rfl;unfold Py Nf;generalize In x a y b=S at *
 generalize DD S (max a b+1)=z at *
 have pz:=BT z;have e:S / 2^z=N:=by rw[hN];exact BP _ (by omega)
 rw[e];obtain⟨k,hk⟩:∃ k,max a b+1=z+k:=⟨max a b+1-z,by omega⟩;rw[show max a b+1-z=k by omega];have hz2:(2:Int)^z*2^k=2*2^max a b:=by rw[<- BC,<- hk,Ax,A8]
 have ea:(2:Int)^max a b=2^(max a b-a)*2^a:=by rw[<- BC];congr 1;omega
 have eb:(2:Int)^max a b=2^(max a b-b)*2^b:=by rw[<- BC];congr 1;omega
 generalize (2:Int)^max a b=M at *
 generalize (2:Int)^(max a b-a)=u at *
 generalize (2:Int)^(max a b-b)=v at *
 generalize (2:Int)^a=A at *
 generalize (2:Int)^b=B at *
 generalize (2:Int)^z=Z at *
 generalize (2:Int)^k=K at *
 apply Gw (show Z ≠ 0 by omega);have e1:Z*(N*(2*(A*B)))=(x*u+y*v)*(2*(A*B)):=by rw[<- hS,hN];grind
 have e2:Z*((x*B+y*A)*K)=(x*B+y*A)*(2*M):=by rw[<- hz2];grind
 have e3:x*B*(2*M)=x*u*(2*(A*B)):=by rw[ea];grind
 have e4:y*A*(2*M)=y*v*(2*(A*B)):=by rw[eb];grind
 rw[e1,e2,GX,GX,e3,e4]
end Go.Proofs.YtajompaehjkgkaaGreat
namespace Go.Ai
open Classical renaming byContradiction->Az
open Decidable renaming decide->B
open Int renaming add_mul->GX,add_zero->B2,le_of_eq->FW,le_of_lt->A0,le_of_mul_le_mul_left->EI,le_refl->Dp,le_trans->Ee,lt_of_lt_of_le->Se,lt_trichotomy->FD,mul_add->CE,mul_assoc->A9,mul_comm->A8,mul_le_mul->DR,mul_le_mul_of_nonneg_left->Ag,mul_le_mul_of_nonneg_right->Ae,mul_ne_zero->AG,mul_neg_of_pos_of_neg->Ir,mul_nonneg->A3,mul_one->CN,mul_pos->Ba,mul_pow->Qu,mul_sub->EG,mul_zero->AC,natAbs->E,natAbs_mul->BM,natAbs_natCast->BF,natCast_add->JS,natCast_mul->CZ,natCast_nonneg->Hy,natCast_pow->CT,ofNat_le->A4x,ofNat_lt->A4w,one_mul->CO,pow_pos->EF,pow_succ->Ax,pow_zero->CD,sub_self->Tf,zero_mul->CJ
open List renaming cons_append->HO,countP_eq_length_filter->Hz,eq_nil_of_length_eq_zero->A1,getD_eq_getElem?_getD->Z,getElem?_eq_getElem->Af,length_cons->Bq,length_eq_countP_add_countP->qV,length_map->N,length_pos_iff->Aj,length_range->B6,length_tail->Sy,length_take->A7,map_append->Ef,map_cons->Cw,map_nil->FK,mem_cons->CS,mem_cons_of_mem->AS,mem_cons_self->AZ,mem_filter->I0,mem_iff_getElem->Jq,mem_of_mem_take->Ct,range->Ao,range_succ->Hi,take_sublist->A6k
open Nat renaming add_assoc->D6,add_sub_cancel->F5,div_add_mod->iH,div_div_eq_div_mul->gK,div_lt_of_lt_mul->pQ,eq_zero_or_pos->F4,le_mul_of_pos_left->Xo,le_mul_of_pos_right->BV,le_of_not_lt->M',le_refl->An,le_trans->Bp,mod_eq_of_lt->Fk,mod_lt->H8,mul_add->A6j,mul_add_mod->Awa,mul_assoc->EA,mul_comm->CM,mul_le_mul->Bu,mul_le_mul_left->z,mul_le_mul_right->AD,mul_one->Iu,mul_pos->Eu,mul_zero->ZG,not_lt_zero->Qq,pow_le_pow_right->B4,pow_pos->Cx,pow_succ->F7,succ_mul->KB,zero_le->Bv
open Rat renaming div_def->Avt,intCast_add->JU,intCast_le_intCast->B8,intCast_mul->CI,intCast_natCast->Dz,intCast_neg->Aey,intCast_sub->iI,inv_pos->Avv,le_of_lt->GY,mul_le_mul_of_nonneg_left->Ue,mul_le_mul_of_nonneg_right->IW,mul_lt_mul_of_pos_right->Kk,mul_nonneg->ET,mul_pos->Hx,natCast_add->Qs,natCast_le_natCast->gR,natCast_mul->GA,one_mul->Avu,pow_succ->A5t
theorem Z8:∀ (M N:Nat) (φ:Nat->Nat),(∀ i,i<N->φ i<M)->M<N->∃ i j,i<j/\j<N/\φ i=φ j
 | 0,N,φ,h,hN=>absurd (h 0 hN) (Qq _)
 | M+1,N,φ,h,hN=>by
  by_cases h0:∃ i,i<N/\φ i=M
  ·obtain⟨i,hi,ei⟩:=h0;by_cases h1:∃ j,j<N/\j ≠ i/\φ j=M
   ·obtain⟨j,hj,hne,ej⟩:=h1;rcases Nat.lt_or_gt_of_ne hne with g | g
    ·exact⟨j,i,g,hi,by omega⟩
    ·exact⟨i,j,g,hj,by omega⟩
   ·have other:∀ j,j<N->j ≠ i->φ j<M:=fun j hj hne=>by
     have:=h j hj;have:φ j ≠ M:=fun e=>h1 ⟨j,hj,hne,e⟩;omega
    obtain⟨a,b,hab,hb,e⟩:=Z8 M (N-1) (fun k=>φ (if k<i then k else k+1)) (fun k hk=>other _ (by split <;> omega) (by split <;> omega)) (by omega);refine⟨if a<i then a else a+1,if b<i then b else b+1,by split <;> split <;> omega,by split <;> omega,e⟩
  ·obtain⟨a,b,hab,hb,e⟩:=Z8 M N φ (fun i hi=>by
    have:=h i hi;have:φ i ≠ M:=fun e=>h0 ⟨i,hi,e⟩;omega) (by omega)
   exact⟨a,b,hab,hb,e⟩
def JT(B v i:Nat):Nat:=v / (B+1)^i % (B+1)
theorem Z9(B v i:Nat):JT B v i<=B:=by
 have:=H8 (v / (B+1)^i) (show 0<B+1 by omega);unfold JT;omega
theorem gJ(B:Nat):∀ (k v w:Nat),v<(B+1)^k->w<(B+1)^k->(∀ i,i<k->JT B v i=JT B w i)->v=w
 | 0,v,w,hv,hw,_=>by simp at hv hw;omega
 | k+1,v,w,hv,hw,h=>by
  have h0:=h 0 (by omega);simp only[JT,Nat.pow_zero,Nat.div_one] at h0;have hd:v / (B+1)=w / (B+1):=by
   apply gJ B k
   ·rw[F7] at hv;exact pQ (by rw[CM];exact hv)
   ·rw[F7] at hw;exact pQ (by rw[CM];exact hw)
   ·intro i hi;have:=h (i+1) (by omega);simp only[JT] at this |-;rw[gK,gK,CM (B+1),<- F7];exact this
  have e1:=iH v (B+1);have e2:=iH w (B+1);rw[hd] at e1;omega
def Ed(f:Nat->Int):Nat->Int
 | 0=>0
 | n+1=>Ed f n+f n
theorem Yx(f g:Nat->Int):∀ n,Ed (fun i=>f i-g i) n=Ed f n-Ed g n
 | 0=>rfl
 | n+1=>by simp only[Ed];rw[Yx f g n];omega
theorem Kj{f g:Nat->Int}:∀ {n},(∀ i,i<n->f i=g i)->Ed f n=Ed g n
 | 0,_=>rfl
 | n+1,h=>by simp only[Ed];rw[Kj fun i hi=>h i (by omega),h n (by omega)]
theorem Yy{f:Nat->Int}{A:Nat}:∀ n,(∀ i,i<n->(f i).natAbs<=A)->(Ed f n).natAbs<=n*A
 | 0,_=>by simp[Ed]
 | n+1,h=>by
  have h1:=Yy n fun i hi=>h i (by omega);have h2:=h n (by omega);simp only[Ed,KB];omega
def IZ(t:Nat->Nat)(Q:Nat):Nat->Nat
 | 0=>0
 | m+1=>IZ t Q m*Q+t m
theorem gL{t:Nat->Nat}{Q:Nat}:∀ m,(∀ j,j<m->t j<Q)->IZ t Q m<Q^m
 | 0,_=>by simp[IZ]
 | m+1,h=>by
  have h1:=gL m fun j hj=>h j (by omega);have h2:=h m (by omega);simp only[IZ,F7];have:(IZ t Q m+1)*Q<=Q^m*Q:=AD _ h1;rw[KB] at this;omega
theorem Yz{t u:Nat->Nat}{Q:Nat}:∀ m,(∀ j,j<m->t j<Q)->(∀ j,j<m->u j<Q)->IZ t Q m=IZ u Q m->∀ j,j<m->t j=u j
 | 0,_,_,_,j,hj=>absurd hj (Qq _)
 | m+1,ht,hu,h,j,hj=>by
  have h1:=ht m (by omega);have h2:=hu m (by omega);simp only[IZ] at h;have e1:(IZ t Q m*Q+t m) % Q=(IZ u Q m*Q+u m) % Q:=by rw[h]
  rw[CM,Awa,Fk h1,CM,Awa,Fk h2] at e1;have e2:IZ t Q m=IZ u Q m:=Nat.eq_of_mul_eq_mul_right (show 0<Q by omega) (by omega);by_cases hjm:j=m
  ·rw[hjm];exact e1
  ·exact Yz m (fun j hj=>ht j (by omega)) (fun j hj=>hu j (by omega)) e2 j (by omega)
theorem A1o(k C:Nat)(a:Nat->Nat->Int)(ha:∀ j i,(a j i).natAbs<=C)(hC:0<C)(hk:1<=k) :
  ∃ d:Nat->Int,(∀ i,(d i).natAbs<=(2*(k*C))^(k-1))/\(∃ i,i<k/\d i ≠ 0)/\∀ j,j<k-1->Ed (fun i=>a j i*d i) k=0:=by
 have hS:0<k*C:=Eu hk hC;generalize hB:(2*(k*C))^(k-1)=B;have hval:∀ v j,(Ed (fun i=>a j i*(JT B v i:Int)) k).natAbs<=k*C*B:=by
  intro v j;have:=Yy (f:=fun i=>a j i*(JT B v i:Int)) (A:=C*B) k (fun i _=>by
   rw[BM,BF];exact Bu (ha j i) (Z9 B v i))
  rwa [<- EA] at this
 have ht:∀ v j,(Ed (fun i=>a j i*(JT B v i:Int)) k+(k*C*B:Nat)).toNat<2*(k*C*B)+1:=by
  intro v j;have:=hval v j;omega
 have hlt:(2*(k*C*B)+1)^(k-1)<(B+1)^k:=by
  have h1:(2*(k*C*B)+1)^(k-1)<=(2*(k*C)*(B+1))^(k-1):=by
   apply Nat.pow_le_pow_left;have:2*(k*C)*(B+1)=2*(k*C*B)+2*(k*C):=by rw[A6j,Iu,EA 2]
   omega
  rw[Nat.mul_pow,hB] at h1;have h2:(B+1)^k=(B+1)^(k-1)*(B+1):=by rw[<- F7];congr 1;omega
  have h3:0<(B+1)^(k-1):=Cx (by omega);have h4:(B+1)^(k-1)*B=B*(B+1)^(k-1):=CM ..;rw[h2,A6j,Iu];omega
 obtain⟨v,w,hvw,hw,e⟩:=Z8 _ _ (fun v=>IZ (fun j=>(Ed (fun i=>a j i*(JT B v i:Int)) k+(k*C*B:Nat)).toNat) (2*(k*C*B)+1) (k-1)) (fun v _=>gL _ (fun j _=>ht v j)) hlt;have he:=Yz (k-1) (fun j _=>ht v j) (fun j _=>ht w j) e;refine⟨fun i=>(JT B w i:Int)-(JT B v i:Int),fun i => ?_,?_,fun j hj => ?_⟩
 ·have h1:=Z9 B v i;have h2:=Z9 B w i;show ((JT B w i:Int)-(JT B v i:Int)).natAbs<=B;omega
 ·apply Az;intro hn;have:=gJ B k v w (by omega) hw (fun i hi=>by
   apply Az;intro g;exact hn ⟨i,hi,by show (JT B w i:Int)-(JT B v i:Int) ≠ 0;omega⟩)
  omega
 ·have h1:(Ed (fun i=>a j i*(JT B v i:Int)) k+(k*C*B:Nat)).toNat=(Ed (fun i=>a j i*(JT B w i:Int)) k+(k*C*B:Nat)).toNat:=he j hj;have h2:=hval v j;have h3:=hval w j;have h4:=Yx (fun i=>a j i*(JT B w i:Int)) (fun i=>a j i*(JT B v i:Int)) k;have h5:Ed (fun i=>a j i*((JT B w i:Int)-(JT B v i:Int))) k=Ed (fun i=>a j i*(JT B w i:Int)-a j i*(JT B v i:Int)) k:=Kj fun i _=>EG ..;rw[h5,h4];omega
def comb(d:Nat->Int)(b:Nat->List Int):Nat->List Int
 | 0=>[]
 | n+1=>Dl (comb d b n) (Av (d n) (b n))
theorem Ww(d:Nat->Int)(b:Nat->List Int)(j:Nat):∀ n,(comb d b n).getD j 0=Ed (fun i=>(b i).getD j 0*d i) n
 | 0=>by simp[comb,Ed]
 | n+1=>by
  simp only[comb,Ed];rw[C',AJ,Ww d b j n,A8 (d n)]
theorem T2(d:Nat->Int)(b:Nat->List Int)(x:Int):∀ n,Aa (comb d b n) x=Ed (fun i=>d i*Aa (b i) x) n
 | 0=>by simp[comb,Ed,Aa]
 | n+1=>by
  simp only[comb,Ed];rw[BJ,Ap,T2 d b x n]
theorem Wx{f:Nat->Int}:∀ {n},(∀ i,i<n->f i=0)->Ed f n=0
 | 0,_=>rfl
 | n+1,h=>by simp only[Ed];rw[Wx fun i hi=>h i (by omega),h n (by omega)];rfl
theorem T3(b:Nat->List Int)(k C:Nat)(hb:∀ i j,((b i).getD j 0).natAbs<=C)(hC:0<C)(hk:1<=k)(hl:∀ i,i<k->(b i).length<=k) :
  ∃ (d:Nat->Int) (R:Int),(∀ i,(d i).natAbs<=(2*(k*C))^(k-1))/\(∃ i,i<k/\d i ≠ 0)/\∀ x,Ed (fun i=>d i*Aa (b i) x) k=R:=by
 obtain⟨d,h1,h2,h3⟩:=A1o k C (fun j i=>(b i).getD (j+1) 0) (fun j i=>hb i (j+1)) hC hk;refine⟨d,(comb d b k).getD 0 0,h1,h2,fun x => ?_⟩;rw[<- T2];have hz:∀ j,(comb d b k).getD j 0=[(comb d b k).getD 0 0].getD j 0:=by
  intro j;cases j with
  | zero=>rfl
  | succ j =>
   show _=0;rw[Ww];by_cases hj:j<k-1
   ·exact h3 j hj
   ·exact Wx fun i hi=>by rw[Bs (by have:=hl i hi;omega),CJ]
 have e:Y (comb d b k)=Y [(comb d b k).getD 0 0]:=Fi hz;rw[<- Dy (comb d b k),e,Dy];simp[Aa]
def R7(f:List Int):List Int:=Dl (Av ((f.length-1:Nat):Int) f) (Av (-1) (Da 1 (Aq f)))
theorem pR(f:List Int)(x:Int):Aa (R7 f) x=((f.length-1:Nat):Int)*Aa f x-x*Aa (Aq f) x:=by
 unfold R7;rw[BJ,Ap,Ap,Df,Ax,CD,CO];omega
theorem Y0(f:List Int)(i:Nat):(R7 f).getD i 0=(((f.length-1:Nat):Int)-(i:Int))*f.getD i 0:=by
 unfold R7;rw[C',AJ,AJ,Cd];cases i with
 | zero=>simp
 | succ i =>
  rw[if_pos (by omega),C_,F5];rw[Int.sub_mul];have:f.getD (i+1) 0*((i+1:Nat):Int)=((i+1:Nat):Int)*f.getD (i+1) 0:=A8 ..;omega
theorem gM(f:List Int):(R7 f).length<=f.length-1:=by
 have h:∀ i,f.length-1<=i->(R7 f).getD i 0=0:=by
  intro i hi;rw[Y0];by_cases e:i=f.length-1
  ·rw[e,Tf,CJ]
  ·rw[Bs (show f.length<=i by omega),AC]
 apply Az;intro hn;have hl:BN (R7 f):=by
  show Y _=_;unfold R7 Dl;rw[HH]
 exact Eo hl (fun e=>by rw[e] at hn;simp at hn) (h _ (by omega))
def pS(f:List Int)(m i:Nat):List Int:=if i<m then Da i (R7 f) else Da (i-m) (Aq f)
theorem Sx(f:Nat->Int)(m:Nat):∀ k,Ed f (m+k)=Ed f m+Ed (fun i=>f (m+i)) k
 | 0=>by simp[Ed]
 | k+1=>by
  rw[<- D6];simp only[Ed];rw[Sx f m k];omega
theorem Jl(d:Nat->Int)(x:Int):∀ m,Ed (fun i=>d i*x^i) m=Aa ((Ao m).map d) x
 | 0=>rfl
 | m+1=>by
  simp only[Ed];rw[Jl d x m,Hi,Ef];have:∀ (l:List Int) (a:Int),Aa (l++[a]) x=Aa l x+a*x^l.length:=by
   intro l a;induction l with
   | nil=>simp[Aa]
   | cons b l ih =>
    simp only[HO,Aa,Bq];rw[ih,Ax];grind
  rw[Cw,FK,this,N,B6]
theorem L'(f:Nat->Int)(c:Int):∀ m,Ed (fun i=>f i*c) m=Ed f m*c
 | 0=>by simp[Ed]
 | m+1=>by simp only[Ed];rw[L' f c m,GX]
theorem Aun{f:List Int}{n:Nat}(hn:f.length=n+1)(h2:2<=n)(hp:(Aq f).length=n){i:Nat}(hi:i<(n-1)+(n-1)):(pS f (n-1) i).length<=(n-1)+(n-1):=by
 have:=gM f;unfold pS;split
 ·rw[GV];omega
 ·rw[GV];omega
theorem pU{f:List Int}{n A:Nat}(hn:f.length=n+1)(hA:∀ i,(f.getD i 0).natAbs<=A)(i j:Nat):((pS f (n-1) i).getD j 0).natAbs<=n*A:=by
 have hh:∀ j,((R7 f).getD j 0).natAbs<=n*A:=by
  intro j;rw[Y0,hn,BM];by_cases hj:j<=n
  ·exact Bu (by omega) (hA j)
  ·rw[Bs (by omega)];simp
 have hd:∀ j,((Aq f).getD j 0).natAbs<=n*A:=by
  intro j;rw[C_,BM,CM];by_cases hj:j<n
  ·exact Bu (by omega) (hA (j+1))
  ·rw[Bs (by omega)];simp
 unfold pS;split
 ·rw[Cd];split
  ·exact hh _
  ·simp
 ·rw[Cd];split
  ·exact hd _
  ·simp
theorem gN{f:List Int}{n A:Nat}(hn:f.length=n+1)(h2:2<=n)(hp:(Aq f).length=n)(hA:∀ i,(f.getD i 0).natAbs<=A)(hA0:0<A) :
  ∃ (d:Nat->Int) (R:Int),(∀ i,(d i).natAbs<=(2*(((n-1)+(n-1))*(n*A)))^((n-1)+(n-1)-1))/\(∃ i,i<(n-1)+(n-1)/\d i ≠ 0) /\
   ∀ x,Aa ((Ao (n-1)).map d) x*Aa (R7 f) x+Aa ((Ao (n-1)).map fun i=>d (n-1+i)) x*Aa (Aq f) x=R:=by
 obtain⟨d,R,h1,h3,h4⟩:=T3 (pS f (n-1)) ((n-1)+(n-1)) (n*A) (pU hn hA) (Eu (by omega) hA0) (by omega) (fun i hi=>Aun hn h2 hp hi);refine⟨d,R,h1,h3,fun x => ?_⟩;rw[<- h4 x,Sx,<- Jl,<- Jl,<- L',<- L'];congr 1
 ·apply Kj;intro i hi;unfold pS;rw[if_pos hi,Df,A9]
 ·apply Kj;intro i hi;unfold pS;rw[if_neg (by omega),Df,show n-1+i-(n-1)=i by omega,A9]
def pq:List Int->Rat->Rat
 | [],_=>0
 | a::p,x=>(a:Rat)+x*pq p x
def pd:List Int->Rat->Rat
 | [],_=>0
 | _::p,x=>pq p x+x*pd p x
def dD:List Int->Rat->Rat->Rat
 | [],_,_=>0
 | _::p,a,b=>pq p a+b*dD p a b
def dE:List Int->Rat->Rat->Rat
 | [],_,_=>0
 | _::p,a,b=>dD p a b+b*dE p a b+pd p a
def dT:List Int->Rat->Rat->Rat
 | [],_,_=>0
 | _::p,a,b=>b*dT p a b+pd p a
def dS:List Int->Rat->Rat->Rat
 | [],_,_=>0
 | _::p,a,b=>a*dS p a b-dT p a b+dE p a b
theorem K4(a b:Rat):∀ f,pq f b=pq f a+(b-a)*dD f a b
 | []=>by simp[pq,dD];grind
 | c::p=>by
  have:=K4 a b p;simp only[pq,dD];grind
theorem gO(a b:Rat):∀ f,pd f b=pd f a+(b-a)*dE f a b
 | []=>by simp[pd,dE];grind
 | c::p=>by
  have h1:=gO a b p;have h2:=K4 a b p;simp only[pd,dE];grind
theorem ZA(a b:Rat):∀ f,pq f b=pq f a+(b-a)*pd f a+(b-a)*(b-a)*dT f a b
 | []=>by simp[pq,pd,dT];grind
 | c::p=>by
  have:=ZA a b p;simp only[pq,pd,dT];grind
theorem gP(a b:Rat):∀ f,dT f b a=dT f a b+(b-a)*dS f a b
 | []=>by simp[dT,dS];grind
 | c::p=>by
  have h1:=gP a b p;have h2:=gO a b p;simp only[dT,dS];grind
def Bd(x c:Rat):Prop := -c<=x/\x<=c
theorem Bd.add{x y c d:Rat}(h:Bd x c)(g:Bd y d):Bd (x+y) (c+d):=by
 unfold Bd at *
 constructor <;> grind
theorem Bd.sub{x y c d:Rat}(h:Bd x c)(g:Bd y d):Bd (x-y) (c+d):=by
 unfold Bd at *
 constructor <;> grind
theorem Bd.mul{x y c d:Rat}(h:Bd x c)(g:Bd y d):Bd (x*y) (c*d):=by
 unfold Bd at *
 have h1:=ET (show 0<=c-x by grind) (show 0<=d+y by grind);have h2:=ET (show 0<=c+x by grind) (show 0<=d-y by grind);have h3:=ET (show 0<=c-x by grind) (show 0<=d-y by grind);have h4:=ET (show 0<=c+x by grind) (show 0<=d+y by grind);constructor <;> grind
theorem Bd.pos{x c:Rat}(h:Bd x c):0<=c:=by unfold Bd at h;grind
theorem Bd.zero:Bd 0 0:=by unfold Bd;constructor <;> grind
theorem Bd.mono{x c d:Rat}(h:Bd x c)(g:c<=d):Bd x d:=by unfold Bd at *;constructor <;> grind
theorem A1p{n:Int}{A:Nat}(h:n.natAbs<=A):Bd (n:Rat) (A:Rat):=by
 have h1:((-(A:Int):Int):Rat)<=(n:Rat):=B8.2 (by omega);have h2:(n:Rat)<=((A:Int):Rat):=B8.2 (by omega);unfold Bd;constructor
 ·rwa [Aey,Dz] at h1
 ·rwa [Dz] at h2
def zV(X:Nat):Nat->Nat
 | 0=>0
 | n+1=>1+X*zV X n
def zD(X:Nat):Nat->Nat
 | 0=>0
 | n+1=>zV X n+X*zD X n
def zE(X:Nat):Nat->Nat
 | 0=>0
 | n+1=>zD X n+X*zE X n+zD X n
def zT(X:Nat):Nat->Nat
 | 0=>0
 | n+1=>X*zT X n+zD X n
def zS(X:Nat):Nat->Nat
 | 0=>0
 | n+1=>X*zS X n+zT X n+zE X n
section
variable {A X:Nat} {a b:Rat} (ha:Bd a X) (hb:Bd b X)
include ha
theorem MT:∀ f:List Int,(∀ c∈f,c.natAbs<=A)->Bd (pq f a) (A*zV X f.length)
 | [],_=>by simpa [pq,zV] using Bd.zero
 | c::p,h=>by
  have ih:=MT p fun c hc=>h c (AS _ hc);have h1:=A1p (h c (AZ ..));have:=h1.add (ha.mul ih);simp only[pq,zV,Bq];refine this.mono ?_;simp;grind
theorem pV:∀ f:List Int,(∀ c∈f,c.natAbs<=A)->Bd (pd f a) (A*zD X f.length)
 | [],_=>by simpa [pd,zD] using Bd.zero
 | c::p,h=>by
  have hp:∀ c∈p,c.natAbs<=A:=fun c hc=>h c (AS _ hc);have:=(MT ha p hp).add (ha.mul (pV p hp));simp only[pd,zD,Bq];refine this.mono ?_;simp;grind
include hb
theorem Qk:∀ f:List Int,(∀ c∈f,c.natAbs<=A)->Bd (dD f a b) (A*zD X f.length)
 | [],_=>by simpa [dD,zD] using Bd.zero
 | c::p,h=>by
  have hp:∀ c∈p,c.natAbs<=A:=fun c hc=>h c (AS _ hc);have:=(MT ha p hp).add (hb.mul (Qk p hp));simp only[dD,zD,Bq];refine this.mono ?_;simp;grind
theorem Auo:∀ f:List Int,(∀ c∈f,c.natAbs<=A)->Bd (dE f a b) (A*zE X f.length)
 | [],_=>by simpa [dE,zE] using Bd.zero
 | c::p,h=>by
  have hp:∀ c∈p,c.natAbs<=A:=fun c hc=>h c (AS _ hc);have:=((Qk ha hb p hp).add (hb.mul (Auo p hp))).add (pV ha p hp);simp only[dE,zE,Bq];refine this.mono ?_;simp;grind
theorem pW:∀ f:List Int,(∀ c∈f,c.natAbs<=A)->Bd (dT f a b) (A*zT X f.length)
 | [],_=>by simpa [dT,zT] using Bd.zero
 | c::p,h=>by
  have hp:∀ c∈p,c.natAbs<=A:=fun c hc=>h c (AS _ hc);have:=(hb.mul (pW p hp)).add (pV ha p hp);simp only[dT,zT,Bq];refine this.mono ?_;simp;grind
theorem Aup:∀ f:List Int,(∀ c∈f,c.natAbs<=A)->Bd (dS f a b) (A*zS X f.length)
 | [],_=>by simpa [dS,zS] using Bd.zero
 | c::p,h=>by
  have hp:∀ c∈p,c.natAbs<=A:=fun c hc=>h c (AS _ hc);have:=((ha.mul (Aup p hp)).sub (pW ha hb p hp)).add (Auo ha hb p hp);simp only[dS,zS,Bq];refine this.mono ?_;simp;grind
end
theorem far{f U W:List Int}{R:Int}{A B X:Nat}{a b e u:Rat}(hR:R ≠ 0)(hid:∀ x,pq U x*pq f x+pq W x*pd f x=(R:Rat))
  (hA:∀ c∈f,c.natAbs<=A) (hB:∀ c∈W,c.natAbs<=B) (ha:Bd a X) (hb:Bd b X) (hab:a<b)
  (hfa:Bd (pq f a) e) (hfb:Bd (pq f b) e) (hUa:Bd (pq U a) u) (hUb:Bd (pq U b) u)
  (he:(b-a)*(u*e+u*e)+(B*zV X W.length+B*zV X W.length)*(e+e)<=b-a) :
  1<=(b-a)*(b-a)*((B*zD X W.length)*(A*zT X f.length)+(B*zV X W.length)*(A*zS X f.length)):=by
 have i1:=hid a;have i2:=hid b;have t1:=ZA a b f;have t2:=ZA b a f;have t3:=gP a b f;have t4:=K4 a b W;have hd:0<b-a:=by grind
 generalize hD:b-a=d at *
 have hba:a-b = -d:=by grind
 rw[hba] at t2;have key:2*(R:Rat)*d=d*(pq U a*pq f a+pq U b*pq f b)+(pq W a+pq W b)*(pq f b-pq f a)+d*(d*d*(dD W a b*dT f b a+pq W a*dS f a b)):=by
  have s1:d*pd f a=pq f b-pq f a-d*d*dT f a b:=by grind
  have s2:d*pd f b=pq f b-pq f a+d*d*dT f b a:=by grind
  have e1:2*(R:Rat)*d=d*(pq U a*pq f a+pq U b*pq f b)+pq W a*(d*pd f a)+pq W b*(d*pd f b):=by grind
  rw[e1,s1,s2];have e2:pq W b=pq W a+d*dD W a b:=t4;have e3:pq W b*dT f b a-pq W a*dT f a b=d*(dD W a b*dT f b a+pq W a*dS f a b):=by rw[e2,t3];grind
  grind
 have b1:=Qk ha hb W hB;have b2:=pW hb ha f hA;have b3:=MT ha W hB;have b4:=Aup ha hb f hA;have b5:=MT hb W hB;have bM:=(b1.mul b2).add (b3.mul b4);have bd1:Bd d d:=by unfold Bd;constructor <;> grind
 have berr:=(bd1.mul ((hUa.mul hfa).add (hUb.mul hfb))).add ((b3.add b5).mul (hfb.sub hfa));generalize hM:(B:Rat)*zD X W.length*(A*zT X f.length)+B*zV X W.length*(A*zS X f.length)=M at *
 generalize dD W a b*dT f b a+pq W a*dS f a b=m at *
 generalize d*(pq U a*pq f a+pq U b*pq f b)+(pq W a+pq W b)*(pq f b-pq f a)=err at *
 have berr2:=berr.mono he;have bdd:Bd (d*(d*d*m)) (d*(d*d*M)):=bd1.mul ((bd1.mul bd1).mul bM);apply Az;intro hn;have hlt:d*(d*d*M)<d:=by
  have h1:d*d*M<1:=by grind
  have h2:=Rat.mul_lt_mul_of_pos_left h1 hd;grind
 unfold Bd at berr2 bdd;rcases FD R 0 with g | g | g
 ·have h1:(R:Rat)<=((-1:Int):Rat):=B8.2 (by omega);have h2:(R:Rat) <= -1:=by simpa using h1
  have h3:=Ue h2 (GY hd);grind
 ·exact hR g
 ·have h1:((1:Int):Rat)<=(R:Rat):=B8.2 (by omega);have h2:1<=(R:Rat):=by simpa using h1
  have h3:=Ue h2 (GY hd);grind
theorem Wy(p:List Int)(x:Rat):pq p x=(p.getD 0 0:Int)+x*pq p.tail x:=by
 cases p with
 | nil=>simp[pq];grind
 | cons a p=>simp[pq]
theorem Ql(p:List Int)(i:Nat):p.tail.getD i 0=p.getD (i+1) 0:=by
 cases p <;> simp
theorem sV(c d:Int)(x:Rat):∀ (n:Nat) (p q r:List Int),p.length<=n->q.length<=n->r.length<=n->(∀ i,r.getD i 0=c*p.getD i 0+d*q.getD i 0)->pq r x=(c:Rat)*pq p x+(d:Rat)*pq q x
 | 0,p,q,r,hp,hq,hr,_=>by
  have e1:=A1 (show p.length=0 by omega);have e2:=A1 (show q.length=0 by omega);have e3:=A1 (show r.length=0 by omega);subst e1 e2 e3;simp[pq];grind
 | n+1,p,q,r,hp,hq,hr,h=>by
  have ih:=sV c d x n p.tail q.tail r.tail (by rw[Sy];omega) (by rw[Sy];omega) (by rw[Sy];omega) (fun i=>by rw[Ql,Ql,Ql];exact h (i+1));rw[Wy p,Wy q,Wy r,ih,h 0,JU,CI,CI];grind
theorem Rs(c d:Int)(x:Rat){p q r:List Int}(h:∀ i,r.getD i 0=c*p.getD i 0+d*q.getD i 0):pq r x=(c:Rat)*pq p x+(d:Rat)*pq q x :=
 sV c d x (p.length+q.length+r.length) p q r (by omega) (by omega) (by omega) h
theorem A1q{p q:List Int}(h:∀ i,p.getD i 0=q.getD i 0)(x:Rat):pq p x=pq q x:=by
 have:=Rs 1 0 x (p:=q) (q:=q) (r:=p) (fun i=>by rw[h i];omega);rw[this];simp;grind
theorem Auq(p q:List Int)(x:Rat):pq (Dl p q) x=pq p x+pq q x:=by
 have:=Rs 1 1 x (p:=p) (q:=q) (r:=Dl p q) (fun i=>by rw[C'];omega);rw[this];simp
theorem Wz(q:List Int)(x:Rat):∀ p,pq (Bo p q) x=pq p x*pq q x
 | []=>by simp[Bo,pq]
 | a::p=>by
  have ih:=Wz q x p;have:=Rs a 1 x (p:=q) (q:=0::Bo p q) (r:=Bo (a::p) q) (fun i=>by simp only[Bo];rw[C',AJ];omega);rw[this];simp only[pq,ih];simp;grind
theorem Aur{p q:List Int}(h:∀ x,Aa p x=Aa q x)(x:Rat):pq p x=pq q x:=A1q (CW h) x
theorem gQ(x:Rat):∀ p,pq (Aq p) x=pd p x
 | []=>rfl
 | a::p=>by
  have ih:=gQ x p;have:=Rs 1 1 x (p:=p) (q:=0::Aq p) (r:=Aq (a::p)) (fun i=>by
   rw[C_];cases i with
   | zero=>simp
   | succ i =>
    show p.getD (i+1) 0*_=1*p.getD (i+1) 0+1*(Aq p).getD i 0;rw[C_];have:p.getD (i+1) 0*((i+1+1:Nat):Int)=p.getD (i+1) 0*((i+1:Nat):Int)+p.getD (i+1) 0:=by rw[show ((i+1+1:Nat):Int)=((i+1:Nat):Int)+1 by omega,CE,CN]
    omega)
  rw[this];simp only[pq,pd,ih];simp;grind
theorem Ru{U f W g:List Int}{R:Int}(h:∀ x,Aa U x*Aa f x+Aa W x*Aa g x=R)(x:Rat):pq U x*pq f x+pq W x*pq g x=(R:Rat):=by
 have e:=Aur (p:=Dl (Bo U f) (Bo W g)) (q:=[R]) (fun x=>by rw[BJ,AP,AP,h x];simp[Aa]) x;rw[Auq,Wz,Wz] at e;rw[e];simp[pq];grind
theorem OT{l:List Int}{c:Int}(h:c∈l):∃ i,c=l.getD i 0:=by
 obtain⟨i,hi,rfl⟩:=Jq.1 h;exact⟨i,by rw[Z,Af hi];rfl⟩
theorem HF(d:Nat->Int)(n i:Nat):((Ao n).map d).getD i 0=if i<n then d i else 0:=GN d n i
def pX(n A:Nat):Nat:=(2*(((n-1)+(n-1))*(n*A)))^((n-1)+(n-1)-1)
theorem A1r{f:List Int}{n A:Nat}(hn:f.length=n+1)(h2:2<=n)(hp:(Aq f).length=n)(hG:DY [1] f (Aq f))(hA:∀ i,(f.getD i 0).natAbs<=A)(hA0:0<A) :
  ∃ (U W:List Int) (R:Int),R ≠ 0/\(∀ x,pq U x*pq f x+pq W x*pd f x=(R:Rat))/\W.length<=n/\∀ c∈W,c.natAbs<=2*pX n A:=by
 obtain⟨d,R,hd,⟨i0,hi0,hne⟩,hid⟩:=gN hn h2 hp hA hA0;generalize hUd:(Ao (n-1)).map d=Ud at *
 generalize hVd:((Ao (n-1)).map fun i=>d (n-1+i))=Vd at *
 have gU:∀ i,Ud.getD i 0=if i<n-1 then d i else 0:=fun i=>by rw[<- hUd];exact HF d (n-1) i
 have gV:∀ i,Vd.getD i 0=if i<n-1 then d (n-1+i) else 0:=fun i=>by rw[<- hVd];exact HF (fun i=>d (n-1+i)) (n-1) i
 have lU:Ud.length=n-1:=by rw[<- hUd];simp
 have lV:Vd.length=n-1:=by rw[<- hVd];simp
 have hB:∀ i,(d i).natAbs<=pX n A:=hd;have hid2:∀ x,Aa (Av (n:Nat) Ud) x*Aa f x+Aa (Dl Vd (Av (-1) (Da 1 Ud))) x*Aa (Aq f) x=R:=by
  intro x;rw[Ap,BJ,Ap,Df,<- hid x,pR,hn,F5,Ax,CD];grind
 refine⟨Av (n:Nat) Ud,Dl Vd (Av (-1) (Da 1 Ud)),R,?_,fun x => ?_,?_,?_⟩
 ·intro hR;rw[hR] at hid hid2;obtain⟨_,_,c,u,v,hc,huv⟩:=hG;have hlead:Y (Aq f)=Aq f:=by unfold Aq;rw[HH]
  have hD:Dv (Aq f) Ud:=by
   refine⟨c*(n:Nat),Dl (Bo v (Av (n:Nat) Ud)) (Av (-1) (Bo u (Dl Vd (Av (-1) (Da 1 Ud))))),AG hc (by omega),fun x => ?_⟩;have h1:=huv x;have h3:=hid2 x;rw[Ap] at h3;rw[BJ,AP,Ap,Ap,AP];have e1:Aa [1] x=1:=by simp[Aa]
   rw[e1,CN] at h1;rw[h1];generalize Aa u x=a at *
   generalize Aa v x=b at *
   generalize Aa (Dl Vd (Av (-1) (Da 1 Ud))) x=w at *
   generalize Aa Ud x=y at *
   generalize Aa f x=z at *
   generalize Aa (Aq f) x=t at *
   have e2:(n:Nat)*y*z = -(w*t):=by omega
   have e3:(a*z+b*t)*(n:Nat)*y=a*((n:Nat)*y*z)+b*t*((n:Nat)*y):=by grind
   rw[e3,e2];grind
  have hU0:Y Ud=[]:=by
   apply Az;intro hz;have:=(hD.length hz).1;rw[hlead,hp] at this;have:=Bf Ud;omega
  have hUz:=CL.1 hU0;have hUe:∀ x,Aa Ud x=0:=fun x=>by rw[<- Dy,hU0];rfl
  have hVe:=MG (p:=Aq f) (q:=Vd) (by rw[hlead];intro e;rw[e] at hp;simp at hp;omega) (fun x=>by
   have:=hid x;rw[hUe x] at this;rw[A8];omega)
  have hVz:∀ i,Vd.getD i 0=0:=fun i=>by
   have:=CW (p:=Vd) (q:=[]) (fun x=>by rw[hVe x];rfl) i;rw[this];rfl
  by_cases hlt:i0<n-1
  ·have:=gU i0;rw[hUz i0,if_pos hlt] at this;exact hne this.symm
  ·have:=gV (i0-(n-1));rw[hVz,if_pos (by omega),show n-1+(i0-(n-1))=i0 by omega] at this;exact hne this.symm
 ·rw[<- gQ];exact Ru hid2 x
 ·have h1:=XO Vd (Av (-1) (Da 1 Ud));have h3:(Av (-1) (Da 1 Ud)).length=1+Ud.length:=by rw[<- GV];simp[Av]
  omega
 ·intro c hc;obtain⟨i,rfl⟩:=OT hc;rw[C',AJ,Cd,gV];have b1:(if i<n-1 then d (n-1+i) else 0).natAbs<=pX n A:=by
   split
   ·exact hB _
   ·simp
  have b2:(if 1<=i then Ud.getD (i-1) 0 else 0).natAbs<=pX n A:=by
   split
   ·rw[gU];split
    ·exact hB _
    ·simp
   ·simp
  omega
theorem pY(x d:Int)(hd:0<d):∀ p:List Int,pq p ((x:Rat) / (d:Rat))*(d:Rat)^p.length=((hv p x d:Int):Rat)*(d:Rat)
 | []=>by simp[pq,hv]
 | t::ts=>by
  have ih:=pY x d hd ts;have h0:(d:Rat) ≠ 0:=by
   intro h;have:=Rat.intCast_inj.1 (show (d:Rat)=((0:Int):Rat) by simpa using h);omega
  simp only[pq,hv,Bq];rw[JU,CI,CI,Rat.intCast_pow,A5t];have e:(x:Rat) / (d:Rat)*(d:Rat)=(x:Rat):=by grind
  generalize pq ts ((x:Rat) / (d:Rat))=y at *
  generalize (d:Rat)^ts.length=z at *
  generalize ((hv ts x d:Int):Rat)=w at *
  generalize (x:Rat) / (d:Rat)=r at *
  grind
theorem A5u(p:List Int)(x q:Int):hv p x q=Hh p x q:=by unfold Hh;rw [Z4]
theorem Rv{d:Rat}(h:0<d):∀ n:Nat,0<d^n
 | 0=>by simp;decide
 | n+1=>by rw[A5t];exact Hx (Rv h n) h
theorem K5{d:Int}(h:0<d):0<(d:Rat):=by
 have:=Rat.intCast_lt_intCast.2 h;simpa using this
theorem Sz{u v h:Rat}(hu:u*v<=0)(hd:Bd (v-u) h):Bd u h:=by
 have h0:=hd.pos;unfold Bd at *
 apply Az;intro hn;have:h<u\/u < -h:=by grind
 rcases this with g | g
 ·have hu0:0<u:=by grind
  have hv0:0<v:=by grind
  have:=Hx hu0 hv0;grind
 ·have hu0:0 < -u:=by grind
  have hv0:0 < -v:=by grind
  have:=Hx hu0 hv0;grind
theorem MU{f:List Int}{z d:Int}(hd:0<d)(h:Hh f z d*Hh f (z+1) d<=0):pq f ((z:Rat) / (d:Rat))*pq f (((z+1:Int):Rat) / (d:Rat))<=0:=by
 have e1:=pY z d hd f;have e2:=pY (z+1) d hd f;rw[A5u] at e1 e2;have hd0:=K5 hd;have hp:=Rv hd0 f.length;have hR:((Hh f z d:Int):Rat)*((Hh f (z+1) d:Int):Rat)<=0:=by
  have:=B8.2 h;rw[CI] at this;simpa using this
 generalize pq f ((z:Rat) / (d:Rat))=u at *
 generalize pq f (((z+1:Int):Rat) / (d:Rat))=v at *
 generalize (d:Rat)^f.length=P at *
 generalize ((Hh f z d:Int):Rat)=a at *
 generalize ((Hh f (z+1) d:Int):Rat)=b at *
 generalize (d:Rat)=D at *
 apply Az;intro hn;have huv:0<u*v:=by grind
 have h1:=Hx huv (Hx hp hp);have e3:u*v*(P*P)=a*b*(D*D):=by
  have:u*v*(P*P)=(u*P)*(v*P):=by grind
  rw[this,e1,e2];grind
 have h2:=ET (show 0 <= -(a*b) by grind) (GY (Hx hd0 hd0));grind
theorem A5v(p:List Int)(hp:Y p ≠ [])(hl:2<=(Ab p).length){x y q:Int}(hq:0<q):∃ c0:Int,0<c0/\∀ c:Int,c0<=c->∀ z:Int,c*x<=z->z<c*y->Nh (Ab p) (prim (Aq (Ab p))) (fun z=>wv 0 (D0 (Cv p) z (c*q))) (c*q) z:=by
 obtain⟨lf,hl1,hG,hc⟩:=HW hp hl;have h0:Ab p ≠ []:=by intro h;rw[h] at hl;simp at hl
 obtain⟨Q0,hQ0,hm⟩:=cell ((x.natAbs:Int)+(y.natAbs:Int)) (by omega) lf hl hl1 hG hc (Ab p).length (by omega);refine⟨Q0,hQ0,fun c hcc z h1 h2 => ?_⟩;have hc0:0<c:=by omega
 have hQq:Q0<=c*q:=by
  have:=Ag (show (1:Int)<=q by omega) (show 0<=c by omega);omega
 have hb:∀ z:Int,(z.natAbs:Int)<=(x.natAbs:Int)+(y.natAbs:Int)->((c*z).natAbs:Int)<=((x.natAbs:Int)+(y.natAbs:Int))*(c*q):=by
  intro z hz;have hcq:c<=c*q:=by
   have:=Ag (show (1:Int)<=q by omega) (show 0<=c by omega);omega
  have h2:=CY (a:=c) (A:=c*q) (by omega) hz;have e:c*q*((x.natAbs:Int)+(y.natAbs:Int))=((x.natAbs:Int)+(y.natAbs:Int))*(c*q):=A8 ..;omega
 have bx:=hb x (by omega);have by':=hb y (by omega);have e:Cv p=Ab p::GW (Ab p).length (Ab p) (prim (Aq (Ab p))):=by unfold Cv;rw[if_neg h0]
 rw[e];exact hm (c*q) z ⟨Ba hc0 hq,by omega,by omega⟩ hQq
theorem Qm{f g:List Int}{W:Int->Int}{q u:Int}(n:Nat)(hc:∀ j:Nat,j<n->Nh f g W q (u+(j:Int)))(h:W (u+(n:Int))<W u):∃ j:Nat,j<n/\W (u+(j:Int)+1)<W (u+(j:Int))/\W (u+(j:Int))=W u:=by
 rcases Je (fun j=>decide (W (u+(j:Int)+1)<W (u+(j:Int)))) n n 0 (by omega) with g1 | ⟨j,_,h2,h3,h4⟩
 ·exfalso;have key:∀ m:Nat,m<=n->W (u+(m:Int))=W u:=by
   intro m;induction m with
   | zero=>intro _;simp
   | succ m ih =>
    intro hm;have i1:=ih (by omega);have i2:=of_decide_eq_false (g1 m (by omega) (by omega));have i3:=(hc m (by omega)).mono;have e:u+((m+1:Nat):Int)=u+(m:Int)+1:=by omega
    rw[e];omega
  have:=key n (An _);omega
 ·refine⟨j,h2,of_decide_eq_true h3,?_⟩;have key:∀ m:Nat,m<=j->W (u+(m:Int))=W u:=by
   intro m;induction m with
   | zero=>intro _;simp
   | succ m ih =>
    intro hm;have i1:=ih (by omega);have i2:=of_decide_eq_false (h4 m (by omega) (by omega));have i3:=(hc m (by omega)).mono;have e:u+((m+1:Nat):Int)=u+(m:Int)+1:=by omega
    rw[e];omega
  exact key j (An _)
theorem Nh.drop{f g:List Int}{W:Int->Int}{q x:Int}(h:Nh f g W q x)(hd:W (x+1)<W x) :
  W x=W (x+1)+1/\(Cz (Hh g x q)=1\/Cz (Hh g x q) = -1)/\Cz (Hh g (x+1) q)=Cz (Hh g x q)/\Cz (Hh f x q) = -Cz (Hh g x q)/\(Hh f (x+1) q=0\/Cz (Hh f (x+1) q)=Cz (Hh g x q)):=by
 rcases h with ⟨_,_,h⟩ | ⟨h1,h2,⟨_,_,h⟩ | ⟨h3,h4,h5⟩⟩
 ·omega
 ·omega
 ·exact⟨h5,h1,h2,h3,h4⟩
theorem Nh.change{f g:List Int}{W:Int->Int}{q x:Int}(h:Nh f g W q x)(hd:W (x+1)<W x):Hh f x q*Hh f (x+1) q<=0:=by
 obtain⟨_,h1,_,h3,h4⟩:=h.drop hd;rcases h4 with h4 | h4
 ·rw[h4];simp
 ·rcases h1 with e | e
  ·rw[e] at h3 h4;have a:=Ip.1 h3;have b:=Io.1 h4;have:=Int.mul_neg_of_neg_of_pos a b;omega
  ·rw[e] at h3 h4;have a:=Io.1 (show Cz (Hh f x q)=1 by omega);have b:=Ip.1 h4;have:=Ir a b;omega
theorem pZ(p:List Int)(hp:Y p ≠ [])(hl:2<=(Ab p).length){x y q:Int}(hq:0<q)(hxy:x<=y)(hV:2<=wv 0 (D0 (Cv p) x q)-wv 0 (D0 (Cv p) y q)) :
  ∃ c:Int,0<c/\∀ k:Int,0<k->∃ z w:Int,k*c*x<=z/\z+1<=k*c*y/\k*c*x<=w/\w+1<=k*c*y/\z+k<=w /\
   Hh (Ab p) z (k*c*q)*Hh (Ab p) (z+1) (k*c*q)<=0/\Hh (Ab p) w (k*c*q)*Hh (Ab p) (w+1) (k*c*q)<=0:=by
 obtain⟨c,hc,hg⟩:=A5v p hp hl (x:=x) (y:=y) hq;have sc:∀ c:Int,0<c->∀ z Q,wv 0 (D0 (Cv p) (c*z) (c*Q))=wv 0 (D0 (Cv p) z Q):=fun c hc z Q=>by rw[HN _ _ _ _ hc]
 have g1:=hg c (Dp _);have hcx:=Ag hxy (A0 hc);have V1:=sc c hc x q;have V2:=sc c hc y q;obtain⟨j1,hj1,d1,e1⟩:=Qm (W:=fun z=>wv 0 (D0 (Cv p) z (c*q))) (u:=c*x) (c*y-c*x).toNat (fun j hj=>g1 (c*x+(j:Int)) (by omega) (by omega)) (by
  show wv 0 (D0 (Cv p) (c*x+((c*y-c*x).toNat:Int)) (c*q))<wv 0 (D0 (Cv p) (c*x) (c*q));rw[show c*x+((c*y-c*x).toNat:Int)=c*y by omega];omega)
 obtain⟨D1,_,D3,_,D5⟩:=(g1 (c*x+(j1:Int)) (by omega) (by omega)).drop d1;generalize hz1:c*x+(j1:Int)=z1 at *
 obtain⟨j2,hj2,d2,e2⟩:=Qm (W:=fun z=>wv 0 (D0 (Cv p) z (c*q))) (u:=z1+1) (c*y-(z1+1)).toNat (fun j hj=>g1 (z1+1+(j:Int)) (by omega) (by omega)) (by
  show wv 0 (D0 (Cv p) (z1+1+((c*y-(z1+1)).toNat:Int)) (c*q))<wv 0 (D0 (Cv p) (z1+1) (c*q));rw[show z1+1+((c*y-(z1+1)).toNat:Int)=c*y by omega];omega)
 obtain⟨_,E2,_,E4,_⟩:=(g1 (z1+1+(j2:Int)) (by omega) (by omega)).drop d2;have hj20:0<j2:=by
  apply Az;intro hn;have:j2=0:=by omega
  subst this;simp only[Int.natCast_zero,B2] at E2 E4 hz1;have:((0:Nat):Int)=0:=rfl;rcases D5 with k | k
  ·rw[show z1+1+((0:Nat):Int)=z1+1 by omega] at *
   rw[k] at E4;have:Cz 0=0:=rfl;omega
  ·rw[show z1+1+((0:Nat):Int)=z1+1 by omega] at *
   omega
 generalize hz2:z1+1+(j2:Int)=z2 at *
 refine⟨c,hc,fun k hk => ?_⟩;have hkc:=Ba hk hc;have gk:=hg (k*c) (by
  have:=Ae (show (1:Int)<=k by omega) (A0 hc);omega)
 have scz:∀ z,wv 0 (D0 (Cv p) (k*z) (k*c*q))=wv 0 (D0 (Cv p) z (c*q)):=fun z=>by rw[A9];exact sc k hk z (c*q)
 have one:∀ z0,c*x<=z0->z0+1<=c*y->wv 0 (D0 (Cv p) (z0+1) (c*q))<wv 0 (D0 (Cv p) z0 (c*q))->∃ z,k*z0<=z/\z+1<=k*z0+k/\Hh (Ab p) z (k*c*q)*Hh (Ab p) (z+1) (k*c*q)<=0:=by
  intro z0 h1 h2 h3;have b1:=Ag h1 (A0 hk);have b2:=Ag h2 (A0 hk);rw[<- A9] at b1 b2;rw[CE,CN] at b2;have hcell:∀ j:Nat,j<k.toNat->Nh (Ab p) (prim (Aq (Ab p))) (fun z=>wv 0 (D0 (Cv p) z (k*c*q))) (k*c*q) (k*z0+(j:Int)):=fun j hj=>gk _ (by omega) (by omega);obtain⟨j,hj,d,_⟩:=Qm (W:=fun z=>wv 0 (D0 (Cv p) z (k*c*q))) (u:=k*z0) k.toNat hcell (by
   show wv 0 (D0 (Cv p) (k*z0+(k.toNat:Int)) (k*c*q))<wv 0 (D0 (Cv p) (k*z0) (k*c*q));rw[show k*z0+(k.toNat:Int)=k*(z0+1) by rw[CE,CN];omega,scz,scz];exact h3)
  exact⟨k*z0+(j:Int),by omega,by omega,(hcell j hj).change d⟩
 obtain⟨z,a1,a2,a3⟩:=one z1 (by omega) (by omega) d1;obtain⟨w,b1,b2,b3⟩:=one z2 (by omega) (by omega) d2;have c1:=Ag (show c*x<=z1 by omega) (A0 hk);have c2:=Ag (show z2+1<=c*y by omega) (A0 hk);have c3:=Ag (show z1+2<=z2 by omega) (A0 hk);rw[<- A9] at c1 c2;rw[CE] at c2 c3;exact⟨z,w,by omega,by omega,by omega,by omega,by omega,a3,b3⟩
theorem qA:∀ l:List Int,∃ A:Nat,∀ c∈l,c.natAbs<=A
 | []=>⟨0,fun c hc=>by cases hc⟩
 | a::l=>by
  obtain⟨A,h⟩:=qA l;refine⟨A+a.natAbs,fun c hc => ?_⟩;rcases CS.1 hc with rfl | hc
  ·omega
  ·have:=h c hc;omega
theorem Aus{X:Nat}(hX:1<=X):∀ {m n:Nat},m<=n->zV X m<=zV X n/\zD X m<=zD X n:=by
 intro m n h;induction h with
 | refl=>exact⟨An _,An _⟩
 | step _ ih =>
  rename_i n _;have h1:=AD (zV X n) hX;have h2:=AD (zD X n) hX;simp only[zV,zD];omega
theorem Jm{z D:Int}{X:Nat}(hD:0<D)(h1 : -(X*D)<=z)(h2:z<=X*D):Bd ((z:Rat) / (D:Rat)) X:=by
 have hD0:=K5 hD;have g1:=B8.2 h1;have g2:=B8.2 h2;rw[Aey,CI,Dz] at g1;rw[CI,Dz] at g2;have e:(z:Rat) / (D:Rat)*(D:Rat)=(z:Rat):=by grind
 generalize (z:Rat) / (D:Rat)=r at *
 rw[<- e] at g1 g2;generalize (D:Rat)=d at *
 unfold Bd;constructor
 ·apply Az;intro hn;have:=Kk (show r < -(X:Rat) by grind) hD0;grind
 ·apply Az;intro hn;have:=Kk (show (X:Rat)<r by grind) hD0;grind
def Mz(n A X:Nat):Nat:=(2*pX n A*zD X n)*(A*zT X (n+1))+(2*pX n A*zV X n)*(A*zS X (n+1))
theorem qB{p:List Int}(hp:Y p ≠ []){n A X:Nat}(hn:(Ab p).length=n+1)(h2:2<=n)(hA:∀ i,((Ab p).getD i 0).natAbs<=A)(hA0:0<A)(hX:1<=X)
  {x y q:Int} (hq:0<q) (hxy:x<=y) (hx : -(X*q)<=x) (hy:y<=X*q) (hV:2<=wv 0 (D0 (Cv p) x q)-wv 0 (D0 (Cv p) y q)):q*q<=(y-x)*(y-x)*(Mz n A X:Nat):=by
 have hl:2<=(Ab p).length:=by omega
 obtain⟨_,hl1,hG,_⟩:=HW hp hl;obtain⟨c,hc,hk⟩:=pZ p hp hl hq hxy hV;generalize Ab p=f at *
 have hlead:Y (Aq f)=Aq f:=by unfold Aq;rw[HH]
 have hpl:(Aq f).length=n:=by rw[BB,hlead] at hl1;omega
 obtain⟨m,hm,hme⟩:=HL (Aq f);have hG2:DY [1] f (Aq f):=DY.scaled (m:=1) (n:=1) (k:=1) (l:=m) (by decide) (by decide) (by decide) hm (fun _=>rfl) (fun x=>by rw[hme x];omega) hG;obtain⟨U,W,R,hR,hid,hWl,hW⟩:=A1r hn h2 hpl hG2 hA hA0;obtain⟨Au,hAu⟩:=qA U;have hAf:∀ c∈f,c.natAbs<=A:=fun c hc=>by
  obtain⟨i,rfl⟩:=OT hc;exact hA i
 have mono:=Aus hX hWl;generalize hS:2*pX n A=B at *
 generalize hE:A*zD X f.length=E0;generalize hC:4*X*(Au*zV X U.length)+4*(B*zV X W.length)=C0;obtain⟨z,w,z1,z2,w1,w2,hzw,fz,fw⟩:=hk ((E0*C0+1:Nat):Int) (by omega);generalize hkk:((E0*C0+1:Nat):Int)=k at *
 have hk0:0<k:=by omega
 have hkc:=Ba hk0 hc;have hD:0<k*c*q:=Ba hkc hq;have sx:=Ag hx (A0 hkc);have sy:=Ag hy (A0 hkc);have ex:k*c * -(X*q) = -(X*(k*c*q)):=by grind
 have ey:k*c*(X*q)=X*(k*c*q):=by grind
 rw[ex] at sx;rw[ey] at sy;have hsub:(w-z)<=k*c*(y-x):=by rw[EG];omega
 have eD:k*c*q=k*(c*q):=A9 ..;generalize hDD:k*c*q=D at *
 have ba:=Jm (X:=X) hD (z:=z) (by omega) (by omega);have bb:=Jm (X:=X) hD (z:=w) (by omega) (by omega);have ba1:=Jm (X:=X) hD (z:=z+1) (by omega) (by omega);have bb1:=Jm (X:=X) hD (z:=w+1) (by omega) (by omega);have ca:=MU hD fz;have cb:=MU hD fw;have hD0:=K5 hD;have d1:=K4 ((z:Rat) / (D:Rat)) (((z+1:Int):Rat) / (D:Rat)) f;have d2:=K4 ((w:Rat) / (D:Rat)) (((w+1:Int):Rat) / (D:Rat)) f;have b1:=Qk ba ba1 f hAf;have b2:=Qk bb bb1 f hAf;have bUa:=MT ba U hAu;have bUb:=MT bb U hAu;have eN:(A:Rat)*(zD X f.length:Nat)=(E0:Nat):=by rw[<- hE];simp
 rw[eN] at b1 b2;have step:∀ s:Int,((s+1:Int):Rat) / (D:Rat)-(s:Rat) / (D:Rat)=1 / (D:Rat):=by
  intro s;rw[JU];simp;grind
 have bone:Bd (1 / (D:Rat)) (1 / (D:Rat)):=by
  have:0<1 / (D:Rat):=by
   rw[Avt,Avu];exact Avv.2 hD0
  unfold Bd;constructor <;> grind
 have hfa:Bd (pq f ((z:Rat) / (D:Rat))) (1 / (D:Rat)*(E0:Nat)):=Sz ca (by
  have e:pq f (((z+1:Int):Rat) / (D:Rat))-pq f ((z:Rat) / (D:Rat))=1 / (D:Rat)*dD f ((z:Rat) / (D:Rat)) (((z+1:Int):Rat) / (D:Rat)):=by rw[d1,step];grind
  rw[e];exact bone.mul b1)
 have hfb:Bd (pq f ((w:Rat) / (D:Rat))) (1 / (D:Rat)*(E0:Nat)):=Sz cb (by
  have e:pq f (((w+1:Int):Rat) / (D:Rat))-pq f ((w:Rat) / (D:Rat))=1 / (D:Rat)*dD f ((w:Rat) / (D:Rat)) (((w+1:Int):Rat) / (D:Rat)):=by rw[d2,step];grind
  rw[e];exact bone.mul b2)
 have hzw':=B8.2 hzw;rw[JU] at hzw';have hkR:(k:Rat)=(E0:Nat)*(C0:Nat)+1:=by rw[<- hkk,Dz,Qs,GA];simp
 have hk1:(0:Rat)<(k:Rat):=K5 hk0;have eC:(C0:Rat)=4*(X:Nat)*((Au:Nat)*(zV X U.length:Nat))+4*((B:Nat)*(zV X W.length:Nat)):=by rw[<- hC];simp
 have ea:(z:Rat) / (D:Rat)*(D:Rat)=(z:Rat):=by grind
 have eb:(w:Rat) / (D:Rat)*(D:Rat)=(w:Rat):=by grind
 have eo:1 / (D:Rat)*(D:Rat)=1:=by grind
 have ho:0<1 / (D:Rat):=by
  rw[Avt,Avu];exact Avv.2 hD0
 have key:1<=((w:Rat) / (D:Rat)-(z:Rat) / (D:Rat))*((w:Rat) / (D:Rat)-(z:Rat) / (D:Rat))*(((B:Nat)*(zD X W.length:Nat))*((A:Nat)*(zT X f.length:Nat))+((B:Nat)*(zV X W.length:Nat))*((A:Nat)*(zS X f.length:Nat))):=by
  refine far hR hid hAf hW ba bb ?_ hfa hfb bUa bUb ?_
  ·have h1:=Kk (show (z:Rat)<(w:Rat) by grind) ho;have e1:(z:Rat)*(1 / (D:Rat))=(z:Rat) / (D:Rat):=by grind
   have e2:(w:Rat)*(1 / (D:Rat))=(w:Rat) / (D:Rat):=by grind
   rw[e1,e2] at h1;exact h1
  ·-- the error
   have hkb:(k:Rat)*(1 / (D:Rat))<=(w:Rat) / (D:Rat)-(z:Rat) / (D:Rat):=by
    have h1:=IW (show (k:Rat)<=(w:Rat)-(z:Rat) by grind) (GY ho);grind
   have hle2:(w:Rat) / (D:Rat)-(z:Rat) / (D:Rat)<=2*(X:Nat):=by
    unfold Bd at ba bb;grind
   generalize (w:Rat) / (D:Rat)-(z:Rat) / (D:Rat)=t at *
   generalize 1 / (D:Rat)=o at *
   have hE0:(0:Rat)<=(E0:Nat):=by
    have h:=(gR (a:=0) (b:=E0)).2 (Bv _);simpa using h
   have hu0:=bUa.pos;have hv0:(0:Rat)<=(B:Nat)*(zV X W.length:Nat):=by
    have:=Bv (B*zV X W.length);have h:=(gR (a:=0) (b:=B*zV X W.length)).2 this;simpa using h
   generalize (Au:Rat)*(zV X U.length:Nat)=u at *
   generalize (B:Rat)*(zV X W.length:Nat)=v at *
   have hoE:=ET (GY ho) hE0;have h1:=IW hle2 (ET hu0 hoE);rw[hkR,eC] at hkb;generalize (E0:Rat)=e0 at *
   generalize (X:Rat)=xx at *
   grind
 have hDR:(D:Rat)*(D:Rat)<=((w:Rat)-(z:Rat))*((w:Rat)-(z:Rat))*(((B:Nat)*(zD X W.length:Nat))*((A:Nat)*(zT X f.length:Nat))+((B:Nat)*(zV X W.length:Nat))*((A:Nat)*(zS X f.length:Nat))):=by
  have h1:=IW key (GY (Hx hD0 hD0));have e:(w:Rat)-(z:Rat)=((w:Rat) / (D:Rat)-(z:Rat) / (D:Rat))*(D:Rat):=by grind
  rw[e];grind
 have hInt:D*D<=(w-z)*(w-z)*(((B*zD X W.length)*(A*zT X f.length)+(B*zV X W.length)*(A*zS X f.length):Nat):Int):=by
  apply B8.1;rw[CI,CI,CI,iI,Dz];simp only[Qs,GA];exact hDR
 have hM:(B*zD X W.length)*(A*zT X f.length)+(B*zV X W.length)*(A*zS X f.length)<=Mz n A X:=by
  unfold Mz;rw[hS,hn];exact Nat.add_le_add (Bu (Bu (An _) mono.2) (An _)) (Bu (Bu (An _) mono.1) (An _))
 have hwz:0<=w-z:=by omega
 have s1:=DR hsub hsub hwz (Ee hwz hsub);have s2:=Ae s1 (Hy (Mz n A X));have s3:=Ag (A4x.2 hM) (A3 hwz hwz);apply EI (a:=k*c*(k*c)) _ (Ba hkc hkc);have e1:k*c*(k*c)*(q*q)=D*D:=by rw[<- hDD];grind
 have e2:k*c*(k*c)*((y-x)*(y-x)*(Mz n A X:Nat))=k*c*(y-x)*(k*c*(y-x))*(Mz n A X:Nat):=by grind
 rw[e1,e2];omega
theorem qC{t:List Int}(ht:Y t ≠ [])(hl:t.length<=9):∃ l:List Int,l.Nodup/\l.length=7/\∀ x∈l,x.natAbs<=7/\Aa t x ≠ 0:=by
 obtain⟨L,hnd,hmem,hlen⟩:∃ L:List Int,L.Nodup/\(∀ x∈L,x.natAbs<=7)/\L.length=15:=⟨[-7,-6,-5,-4,-3,-2,-1,0,1,2,3,4,5,6,7],by decide,by decide,rfl⟩;have hsum:=qV (fun x=>decide (Aa t x=0)) (l:=L);rw[Hz,Hz] at hsum;have hA:(L.filter fun x=>decide (Aa t x=0)).length<=8:=by
  apply M';intro h;apply ht;rw[CL];exact VX 9 t (L.filter fun x=>decide (Aa t x=0)) hl (hnd.filter _) (fun x hx=>by simpa using (I0.1 hx).2) (by omega)
 refine⟨(L.filter fun x=>decide ¬ (B (Aa t x=0))=true).take 7,(hnd.filter _).sublist (A6k _ _),?_,?_⟩
 ·rw[A7];omega
 ·intro x hx;obtain⟨h1,h2⟩:=I0.1 (Ct hx);exact⟨hmem x h1,by simpa using h2⟩
theorem ZB{t g k:List Int}{P:Nat}(ht:Y t ≠ [])(hl:t.length<=9)(hg:g.length<=7)(hP:∀ i,(t.getD i 0).natAbs<=P)(h:∀ x,Aa t x=Aa g x*Aa k x):∀ i,(g.getD i 0).natAbs<=P*8^9*17^6:=by
 obtain⟨l,l1,l2,l3⟩:=qC ht hl;exact Tp (R:=7) 6 g l (P*8^9) hg l1 l2 (fun x hx=>by
  obtain⟨a,b⟩:=l3 x hx;refine⟨a,?_⟩;have h2:=Sn (R:=7) t x hP a;have h3:=congrArg E (h x);rw[BM] at h3;have h4:1<=(Aa k x).natAbs:=by
   rcases F4 (Aa k x).natAbs with g | g
   ·rw[g,ZG] at h3;omega
   ·exact g
  have h5:=BV (Aa g x).natAbs h4;have h6:P*8^t.length<=P*8^9:=z _ (B4 (by decide) hl);exact Bp (Bp h5 (Nat.le_of_eq h3.symm)) (Bp h2 h6)) (fun x _ y _ hne=>by omega)
theorem S0{u a b P Q:Int}{v:Int}(hu:u ≠ 0)(hv:v.natAbs<=u.natAbs)(h:u*a=b-v*P)(hb:(b.natAbs:Int)<=Q):(a.natAbs:Int)<=Q+(P.natAbs:Int):=by
 have h1:(u.natAbs:Int)*(a.natAbs:Int)<=(b.natAbs:Int)+(v.natAbs:Int)*(P.natAbs:Int):=by
  have e1:(u.natAbs:Int)*(a.natAbs:Int)=((u*a).natAbs:Int):=by rw[BM];rfl
  have e2:(v.natAbs:Int)*(P.natAbs:Int)=((v*P).natAbs:Int):=by rw[BM];rfl
  rw[e1,e2,h];omega
 have hu1:(1:Int)<=(u.natAbs:Int):=by omega
 have h2:(v.natAbs:Int)*(P.natAbs:Int)<=(u.natAbs:Int)*(P.natAbs:Int):=Ae (by omega) (by omega);have h3:(b.natAbs:Int)<=(u.natAbs:Int)*(b.natAbs:Int):=by
  have:=Ae hu1 (show (0:Int)<=(b.natAbs:Int) by omega);omega
 have h4:(u.natAbs:Int)*(a.natAbs:Int)<=(u.natAbs:Int)*((b.natAbs:Int)+(P.natAbs:Int)):=by rw[CE];omega
 have:=EI h4 (by omega);omega
theorem qD{t f:List Int}{v u:Int}{P N:Nat}(hu:u ≠ 0)(hN:f.length<=N)(hP:∀ i,(t.getD i 0).natAbs<=P)(h:∀ x,Aa t x=Aa f x*Aa [v,u] x):∀ i,(f.getD i 0).natAbs<=(N+1)*P:=by
 have hc:=CW (p:=t) (q:=Dl (Av v f) (Av u (Da 1 f))) (fun x=>by
  rw[h x,BJ,Ap,Ap,Df,Ax,CD];simp only[Aa];grind)
 have hi:∀ i,t.getD i 0=v*f.getD i 0+u*(if 1<=i then f.getD (i-1) 0 else 0):=by
  intro i;rw[hc i,C',AJ,AJ,Cd]
 by_cases hvu:v.natAbs<=u.natAbs
 ·-- from the w
  have key:∀ j i:Nat,i+j=N->((f.getD i 0).natAbs:Int)<=(j:Int)*P:=by
   intro j;induction j with
   | zero=>intro i e;rw[Bs (by omega)];simp
   | succ j ih =>
    intro i e;have h1:=ih (i+1) (by omega);have h2:=hi (i+1);rw[if_pos (by omega),F5] at h2;have h3:=S0 (a:=f.getD i 0) (b:=t.getD (i+1) 0) (P:=f.getD (i+1) 0) (Q:=P) hu hvu (by omega) (by have:=hP (i+1);omega);have:((j+1:Nat):Int)*(P:Int)=(j:Int)*P+P:=by rw[JS];grind
    omega
  intro i;by_cases hiN:i<=N
  ·have:=key (N-i) i (by omega);have h2:((N-i:Nat):Int)*(P:Int)<=((N+1:Nat):Int)*(P:Int):=Ae (by omega) (by omega);have h3:(((N+1)*P:Nat):Int)=((N+1:Nat):Int)*(P:Int):=by simp
   omega
  ·rw[Bs (by omega)];simp
 ·have hv:v ≠ 0:=by omega
  have key:∀ i:Nat,((f.getD i 0).natAbs:Int)<=((i+1:Nat):Int)*P:=by
   intro i;induction i with
   | zero =>
    have h2:=hi 0;rw[if_neg (by omega),AC] at h2;have h3:=S0 (u:=v) (v:=0) (a:=f.getD 0 0) (b:=t.getD 0 0) (P:=0) (Q:=P) hv (by simp) (by omega) (by have:=hP 0;omega);simp at h3 |-;omega
   | succ i ih =>
    have h2:=hi (i+1);rw[if_pos (by omega),F5] at h2;have h3:=S0 (u:=v) (v:=u) (a:=f.getD (i+1) 0) (b:=t.getD (i+1) 0) (P:=f.getD i 0) (Q:=P) hv (by omega) (by omega) (by have:=hP (i+1);omega);have:((i+1+1:Nat):Int)*(P:Int)=((i+1:Nat):Int)*P+P:=by
     rw[show ((i+1+1:Nat):Int)=((i+1:Nat):Int)+1 by omega,GX,CO]
    omega
  intro i;by_cases hiN:i<N
  ·have:=key i;have h2:((i+1:Nat):Int)*(P:Int)<=((N+1:Nat):Int)*(P:Int):=Ae (by omega) (by omega);have h3:(((N+1)*P:Nat):Int)=((N+1:Nat):Int)*(P:Int):=by simp
   omega
  ·rw[Bs (by omega)];simp
def T4(n P:Nat):Nat:=if 7<=n then 10*P else P*8^9*17^6
theorem T5{p:List Int}(hp:Y p ≠ [])(hl:p.length<=9){P:Nat}(hP:∀ i,(p.getD i 0).natAbs<=P){n:Nat}(hn:(Ab p).length=n+1):∀ i,((Ab p).getD i 0).natAbs<=if n=8 then P else T4 n P:=by
 obtain⟨lf,cf,tf,f0,⟨c,k,hc,hk⟩,_,_,_⟩:=Cj hp;generalize Ab p=f at *
 obtain⟨k',hk'⟩:=Ld hc cf hk;have hft:Y f ≠ []:=by rw[lf];exact f0
 have hk0:Y k' ≠ []:=by
  intro z;have:Y p=[]:=by
   rw[CL];have:=CW (p:=p) (q:=[]) (fun x=>by rw[hk' x,<- Dy k',z];simp[Aa]);intro i;rw[this i];rfl
  exact hp this
 have hlen:=Ji hft hk0;have e:=EZ (p:=p) (q:=Bo f k') (fun x=>by rw[hk' x,AP]);rw[<- e,lf] at hlen;have htl:=Bf p;have hkp:=Aj.2 hk0;have hk2:∀ x,Aa p x=Aa f x*Aa (Y k') x:=fun x=>by rw[hk' x,Dy]
 have hP0:P<=P*8^9*17^6:=by
  rw[EA];exact BV _ (by decide)
 by_cases h1:(Y k').length=1
 ·obtain⟨d,hd⟩:=LS h1;have hd0:d ≠ 0:=by
   intro z;have:=Eo (GM k') hk0;rw[hd,z] at this;exact this rfl
  have hc2:=CW (p:=p) (q:=Av d f) (fun x=>by rw[hk2 x,hd,Ap];simp only[Aa];grind);have key:∀ i,(f.getD i 0).natAbs<=P:=by
   intro i;have h3:=hP i;rw[hc2 i,AJ,BM] at h3;exact Bp (Xo _ (by omega)) h3
  intro i;have:=key i;unfold T4;split
  ·exact this
  ·split <;> omega
 ·have hn8:n ≠ 8:=by omega
  rw[if_neg hn8];unfold T4;by_cases h7:7<=n
  ·rw[if_pos h7];have h2:(Y k').length=2:=by omega
   obtain⟨v,u,hvu⟩:∃ v u,Y k'=[v,u]:=by
    match hm:Y k',h2 with
    | [v,u],_=>exact⟨v,u,rfl⟩
   have hu:u ≠ 0:=by
    have:=Eo (GM k') hk0;rw[hvu] at this;exact this
   have:=qD (f:=f) (t:=p) (N:=8) hu (by omega) hP (fun x=>by rw[hk2 x,hvu]);intro i;have:=this i;omega
  ·rw[if_neg h7];exact ZB hp hl (by omega) hP hk'
theorem A1s:∀ e,e=895->∀ n,2<=n->n<=8->6400*Mz n (if n=8 then 2^100 else T4 n (2^100)) 40<4^e:=by
 intro e he n h2 h8;subst he;match n,h2,h8 with
 | 2,_,_=>exact of_decide_eq_true (by kernel_rfl)
 | 3,_,_=>exact of_decide_eq_true (by kernel_rfl)
 | 4,_,_=>exact of_decide_eq_true (by kernel_rfl)
 | 5,_,_=>exact of_decide_eq_true (by kernel_rfl)
 | 6,_,_=>exact of_decide_eq_true (by kernel_rfl)
 | 7,_,_=>exact of_decide_eq_true (by kernel_rfl)
 | 8,_,_=>exact of_decide_eq_true (by kernel_rfl)
theorem Adx{n k:Nat}(h:n<=k):(4:Int)^n<=2^k*2^k:=by
 have e:(4:Int)^n=2^n*2^n:=by
  rw[<- Qu];rfl
 rw[e];have hp:(2:Int)^n<=2^k:=by
  have:=B4 (n:=2) (by decide) h;have h:=A4x.2 this;rwa [CT,CT] at h
 exact DR hp hp (A0 (EF (by decide))) (A0 (EF (by decide)))
theorem Ady{p:List Int}(hp:Y p ≠ [])(hl:p.length<=9)(hP:∀ i,(p.getD i 0).natAbs<=2^100)(h2:3<=(Ab p).length){x y q:Int}(hq:0<q)(hxy:x<=y)(hx : -(40*q)<=x)(hy:y<=40*q)
  {k:Nat} (hk:895<=k) (hw:(y-x)*2^k<=80*q):wv 0 (D0 (Cv p) x q)-wv 0 (D0 (Cv p) y q)<=1:=by
 apply Az;intro hn;obtain⟨n,hn1⟩:∃ n,(Ab p).length=n+1:=⟨(Ab p).length-1,by omega⟩;have hpl:(Ab p).length<=9:=by
  obtain⟨lf,cf,_,_,hd,_⟩:=Cj hp;have h:=(hd.length hp).1;rw[lf] at h;have:=Bf p;omega
 have hb:=T5 hp hl hP hn1;have hs:=qB hp hn1 (by omega) hb (by
  split
  ·exact Cx (by decide)
  ·unfold T4;split
   ·exact Eu (by decide) (Cx (by decide))
   ·exact Eu (Eu (Cx (by decide)) (Cx (by decide))) (Cx (by decide))) (X:=40) (by decide) hq hxy hx hy (by omega)
 obtain⟨e,he,hm⟩:∃ e,e<=k/\6400*Mz n (if n=8 then 2^100 else T4 n (2^100)) 40<4^e:=⟨895,hk,A1s _ rfl n (by omega) (by omega)⟩;generalize Mz n (if n=8 then 2^100 else T4 n (2^100)) 40=M at *
 have hK:(0:Int)<2^k:=EF (by decide);have h1:=Ae hs (A0 (Ba hK hK));have e1:(y-x)*(y-x)*(M:Int)*(2^k*2^k)=((y-x)*2^k)*((y-x)*2^k)*(M:Int):=by grind
 have hD0:0<=(y-x)*2^k:=A3 (by omega) (A0 hK);have hsq:=DR hw hw hD0 (show 0<=80*q by omega);have h1:=Ee h1 (FW e1);have h1:=Ee h1 (Ae hsq (show (0:Int)<=(M:Nat) by omega));have e2:80*q*(80*q)*(M:Int)=q*q*(6400*(M:Int)):=by grind
 rw[e2] at h1;have h3:=EI h1 (Ba hq hq);have h4:=Adx he;have h5:=A4w.2 hm;rw[CZ,CT] at h5;have:((4:Nat):Int)=4:=rfl;rw[this] at h5;have:((6400:Nat):Int)=6400:=rfl;rw[this] at h5;exact absurd (Se h5 (Ee h4 h3)) (Int.lt_irrefl _)
theorem qE(p:List Int)(hp:Y p ≠ [])(hl:2<=(Ab p).length){x y q:Int}(hq:0<q)(hxy:x<y)(hz:Hh (Ab p) y q=0):wv 0 (D0 (Cv p) y q)+1<=wv 0 (D0 (Cv p) x q):=by
 obtain⟨c,hc,hg⟩:=A4m p hp hl (x:=x) (y:=y) hq;have sc:∀ z,wv 0 (D0 (Cv p) (c*z) (c*q))=wv 0 (D0 (Cv p) z q):=fun z=>by rw[HN _ _ _ _ hc]
 have hs:Cz (Hh (Ab p) (c*y) (c*q))=Cz (Hh (Ab p) y q):=Sw _ _ _ _ hc;have d1:c*x+c<=c*y:=by
  have:=Ag (show x+1<=y by omega) (show 0<=c by omega);rw[CE,CN] at this;exact this
 have hz':Hh (Ab p) (c*y) (c*q)=0:=by rw[<- DI,hs,DI];exact hz
 have hcell:=hg (c*y-1) (by omega) (by omega);have h2:=hcell.root (by rw[show c*y-1+1=c*y by omega];exact hz');simp only[show c*y-1+1=c*y by omega] at h2;have h3:=Ou (u:=c*x) (c*y-1-c*x).toNat (fun j hj=>hg (c*x+(j:Int)) (by omega) (by omega));simp only[show c*x+((c*y-1-c*x).toNat:Int)=c*y-1 by omega] at h3;rw[sc] at h2 h3;omega
theorem Uf:∀ (l:List Int) (last:Int),wv last l<=(l.length:Int)
 | [],_=>by simp[wv]
 | s::ss,last=>by
  simp only[wv,Bq];have h1:=Uf ss last;have h2:=Uf ss s;split
  ·omega
  ·split <;> omega
theorem gS(s:Int)(ss:List Int):wv 0 (s::ss)<=(ss.length:Int):=by
 simp only[wv];have h1:=Uf ss 0;have h2:=Uf ss s;split
 ·omega
 ·rw[if_neg (fun h=>h.1 rfl)];omega
theorem MV:∀ (l:List Int) (last:Int),0<=wv last l
 | [],_=>by simp[wv]
 | s::ss,last=>by
  simp only[wv];have h1:=MV ss last;have h2:=MV ss s;split
  ·exact h1
  ·split <;> omega
theorem Adz{p:List Int}(h:(Ab p).length<=2)(x q:Int):wv 0 (D0 (Cv p) x q)<=1:=by
 unfold Cv;split
 ·simp[D0,wv]
 ·rename_i h0;have hpos:=Aj.2 h0;have hb:(prim (Aq (Ab p))).length<=1:=by
   rw[BB];have:=Bf (Aq (Ab p));have:=So (Ab p);omega
  have hc:(GW (Ab p).length (Ab p) (prim (Aq (Ab p)))).length<=1:=by
   generalize prim (Aq (Ab p))=g at *
   obtain⟨n,hn⟩:∃ n,(Ab p).length=n+1:=⟨(Ab p).length-1,by omega⟩;rw[hn];simp only[GW];split
   ·simp
   ·rename_i hg;have hgp:=Aj.2 hg;have hn1:n<=1:=by omega
    have:(GW n g (BZ (Bz (Ab p) g))).length=0:=by
     match n,hn1 with
     | 0,_=>rfl
     | 1,_ =>
      simp only[GW];split
      ·rfl
      ·rename_i hz;exfalso;apply hz;have e:Bz (Ab p) g=[]:=by
        apply Az;intro he;have hle:(Bz (Ab p) g).length<g.length:=by
         have:=(dY (x:=Ab p) (y:=g) ?_ hg).2
         ·exact this
         ·have h0':Y p ≠ []:=by
           intro h;apply h0;have hz:prim p=[]:=by rw[Do,<- CL];exact h
           unfold Ab;rw[hz];rfl
          exact (Cj h0').1
        have:=Aj.2 he;omega
       rw[e];rfl
    simp only[Bq];omega
  unfold D0;rw[Cw];have:=gS (Cz (Hh (Ab p) x q)) ((GW (Ab p).length (Ab p) (prim (Aq (Ab p)))).map fun p=>Cz (Hh p x q));(first|rw[N] at this|(unfold sL at this;rw[N] at this));omega
end Go.Ai
namespace Go.Proofs.YtajompaehjkgkaaGreat
open Go.Ai
set_option maxRecDepth 100000
open Bool renaming and_eq_true->Ad
open Classical renaming byContradiction->Az
open Go.Ai.AV renaming bool->A6m,sl->A6n,tup->A6t
open Int renaming eq_of_mul_eq_mul_right->Xm,le_of_eq->FW,le_of_lt->A0,le_of_mul_le_mul_right->JE,lt_of_mul_lt_mul_right->E1,mul_comm->A8,mul_le_mul_of_nonneg_right->Ae,mul_lt_mul_of_pos_right->B0,mul_pos->Ba,mul_right_comm->D2,natCast_add->JS,not_le->H',pow_add->BC,pow_succ->Ax,toNat_natCast->F
open List renaming all_eq_true->BQ,getD_eq_getElem?_getD->Z,getElem?_eq_getElem->Af,getElem?_map->C7,getElem_mem->Ds,length_append->AY,length_map->N,length_pos_iff->Aj,mem_append->BR,mem_cons->CS
open Nat renaming add_comm->Hn,le_of_lt->kO,le_refl->An,le_trans->Bp,log2_lt->Pa,lt_of_le_of_lt->Dk,mul_le_mul->Bu,mul_le_mul_left->z,mul_le_mul_right->AD,pow_add->C8,pow_le_pow_right->B4,pow_lt_pow_right->PZ,zero_le->Bv
structure Wd (k:Nat) (x:Iv):Prop where
 w:(O x.t*2^x.a-O x.r*2^x.b)*2^k=80*(2^x.a*2^x.b)
 lo : -(40*2^x.a)<=O x.r
 hi:O x.t<=40*2^x.b
 a:x.a<=k
 b:x.b<=k
theorem Wd.lt{k x}(h:Wd k x):O x.r*2^x.b<O x.t*2^x.a:=by
 have hA:=BT x.a;have hB:=BT x.b;have hK:=BT k;have h1:=h.w;have h2:=Ba hA hB;have:0<(O x.t*2^x.a-O x.r*2^x.b)*2^k:=by omega
 have:=Int.pos_of_mul_pos_left this hK;omega
theorem Wd.halves{k x}(h:Wd k x):Wd (k+1) x.lf/\Wd (k+1) x.rg:=by
 have hA:=BT x.a;have hB:=BT x.b;have hK:=BT k;have hE:=BT x.me;have hw:=h.w;have hlo:=h.lo;have hhi:=h.hi;have ha:=h.a;have hb:=h.b;obtain⟨m1,m2⟩:=MR h.lt;have m1:O x.r*2^x.me<x.mn*2^x.a:=m1;have m2:x.mn*2^x.b<O x.t*2^x.me:=m2;have hv:x.mn*(2*(2^x.a*2^x.b))=(O x.r*2^x.b+O x.t*2^x.a)*2^x.me:=Aum (O x.r) x.a (O x.t) x.b;have hme:x.me<=max x.a x.b+1:=OO;have eK:(2:Int)^(k+1)=2*2^k:=by rw[Ax,A8]
 constructor
 ·refine⟨?_,hlo,?_,by show x.a<=_;omega,by show x.me<=_;omega⟩
  ·show (O (cn x.mn)*2^x.a-O x.r*2^x.me)*2^(k+1)=80*(2^x.a*2^x.me);rw[u,eK];generalize (2:Int)^k=K at *
   generalize (2:Int)^x.a=A at *
   generalize (2:Int)^x.b=B at *
   generalize (2:Int)^x.me=E at *
   apply Xm (show B ≠ 0 by omega);have e1:(x.mn*A-O x.r*E)*(2*K)*B=(x.mn*(2*(A*B))-2*(O x.r*B*E))*K:=by grind
   rw[e1,hv];have e2:((O x.r*B+O x.t*A)*E-2*(O x.r*B*E))*K=(O x.t*A-O x.r*B)*K*E:=by grind
   rw[e2,hw];grind
  ·show O (cn x.mn)<=40*2^x.me;rw[u];apply JE (a:=2^x.b) _ hB;have e1:=Ae hhi (A0 hE);have e2:(40:Int)*2^x.b*2^x.me=40*2^x.me*2^x.b:=by grind
   omega
 ·refine⟨?_,?_,hhi,by show x.me<=_;omega,by show x.b<=_;omega⟩
  ·show (O x.t*2^x.me-O (cn x.mn)*2^x.b)*2^(k+1)=80*(2^x.me*2^x.b);rw[u,eK];generalize (2:Int)^k=K at *
   generalize (2:Int)^x.a=A at *
   generalize (2:Int)^x.b=B at *
   generalize (2:Int)^x.me=E at *
   apply Xm (show A ≠ 0 by omega);have e1:(O x.t*E-x.mn*B)*(2*K)*A=(2*(O x.t*A*E)-x.mn*(2*(A*B)))*K:=by grind
   rw[e1,hv];have e2:(2*(O x.t*A*E)-(O x.r*B+O x.t*A)*E)*K=(O x.t*A-O x.r*B)*K*E:=by grind
   rw[e2,hw];grind
  ·show -(40*2^x.me)<=O (cn x.mn);rw[u];apply JE (a:=2^x.a) _ hA;have e1:=Ae hlo (A0 hE);have e2 : -((40:Int)*2^x.a)*2^x.me = -(40*2^x.me)*2^x.a:=by grind
   omega
structure Fewp (p:List Int):Prop where
 ne:Y p ≠ []
 len:p.length<=9
 co:∀ i,(p.getD i 0).natAbs<=2^100
theorem Fewp.d1{p}(hp:Fewp p){k x}(h:Wd k x)(hk:895<=k):x.d p=0\/x.d p=1:=by
 have hA:=BT x.a;have hB:=BT x.b;have h0:0<=x.d p:=by
  have:=L1 (p:=p) (A0 h.lt);unfold Iv.d;omega
 have h1:x.d p<=1:=by
  unfold Iv.d;by_cases hl:3<=(Ab p).length
  ·have e1:=FV p (O x.r) x.a x.b;have e2:=FV p (O x.t) x.b x.a;rw[Hn x.b x.a] at e2;rw[<- e1,<- e2,Hv,Hv];have hq:(2:Int)^(x.a+x.b)=2^x.a*2^x.b:=BC ..;refine Ady hp.ne hp.len hp.co hl (BT _) (A0 h.lt) ?_ ?_ hk ?_
   ·rw[hq];have:=Ae h.lo (A0 hB);have e : -((40:Int)*2^x.a)*2^x.b = -(40*(2^x.a*2^x.b)):=by grind
    omega
   ·rw[hq];have:=Ae h.hi (A0 hA);have e:(40:Int)*2^x.b*2^x.a=40*(2^x.a*2^x.b):=by grind
    omega
   ·rw[hq];exact FW h.w
  ·rw[Hv,Hv];have a1:=Adz (p:=p) (by omega) (O x.r) (2^x.a);have a2:=MV (D0 (Cv p) (O x.t) (2^x.b)) 0;omega
 omega
theorem Fewp.deep{p}(hp:Fewp p):∀ (n k:Nat) (x:Iv),k+n=895->Wd k x->Deep p 896 n x:=by
 intro n;induction n with
 | zero=>intro k x hk h;exact hp.d1 h (by omega)
 | succ n ih =>
  intro k x hk h;obtain⟨h1,h2⟩:=h.halves;have hme:x.me<=max x.a x.b+1:=OO;have ha:=h.a;have hb:=h.b;exact .inr (.inr ⟨by omega,ih (k+1) x.lf (by omega) h1,ih (k+1) x.rg (by omega) h2⟩)
theorem Aea{p:List Int}{E:Nat}:∀ (n k:Nat) (x:Iv),Wd k x->Deep p E n x->∀ y∈Iq p n x,y.d p=1/\∃ j,k<=j/\j<=k+n/\Wd j y:=by
 intro n;induction n with
 | zero =>
  intro k x h hd y hy;simp only[Iq] at hy;rcases hd with hd | hd
  ·rw[if_pos hd] at hy;cases hy
  ·rw[if_neg (by omega)] at hy;rcases CS.1 hy with rfl | hy
   ·exact⟨hd,k,An _,An _,h⟩
   ·cases hy
 | succ n ih =>
  intro k x h hd y hy;simp only[Iq] at hy;by_cases c0:x.d p=0
  ·rw[if_pos c0] at hy;cases hy
  ·rw[if_neg c0] at hy;by_cases c1:x.d p=1
   ·rw[if_pos c1] at hy;rcases CS.1 hy with rfl | hy
    ·exact⟨c1,k,An _,by omega,h⟩
    ·cases hy
   ·rw[if_neg c1] at hy;rcases hd with hd | hd | ⟨_,d1,d2⟩
    ·exact absurd hd c0
    ·exact absurd hd c1
    ·obtain⟨h1,h2⟩:=h.halves;rcases BR.1 hy with hy | hy
     ·obtain⟨a,j,b,c,d⟩:=ih (k+1) x.lf h1 d1 y hy;exact⟨a,j,by omega,by omega,d⟩
     ·obtain⟨a,j,b,c,d⟩:=ih (k+1) x.rg h2 d2 y hy;exact⟨a,j,by omega,by omega,d⟩
theorem Rw{p:List Int}{E:Nat}:∀ (n k:Nat) (x:Iv),Wd k x->Deep p E n x->((Iq p n x).length:Int)=x.d p:=by
 intro n;induction n with
 | zero =>
  intro k x h hd;simp only[Iq];rcases hd with hd | hd
  ·rw[if_pos hd,hd];rfl
  ·rw[if_neg (by omega),hd];rfl
 | succ n ih =>
  intro k x h hd;simp only[Iq];by_cases c0:x.d p=0
  ·rw[if_pos c0,c0];rfl
  ·rw[if_neg c0];by_cases c1:x.d p=1
   ·rw[if_pos c1,c1];rfl
   ·rw[if_neg c1];rcases hd with hd | hd | ⟨_,d1,d2⟩
    ·exact absurd hd c0
    ·exact absurd hd c1
    ·obtain⟨h1,h2⟩:=h.halves;have i1:=ih (k+1) x.lf h1 d1;have i2:=ih (k+1) x.rg h2 d2;rw[AY,JS,i1,i2];show (Vd p (O x.r) x.a-Vd p (O (cn x.mn)) x.me)+(Vd p (O (cn x.mn)) x.me-Vd p (O x.t) x.b)=Vd p (O x.r) x.a-Vd p (O x.t) x.b;omega
def L_:Iv:=⟨cn (-40),0,cn 40,0⟩
theorem sW:IvOk 6 0 L_:=⟨B9 (Gd (k:=6) (by decide) (by decide)),B9 (Gd (k:=6) (by decide) (by decide)),An _,An _,by show (O (cn (-40))).natAbs<=_;rw [u];decide,by show (O (cn 40)).natAbs<=_;rw [u];decide⟩
theorem OU:Wd 0 L_:=by
 refine⟨?_,?_,?_,An _,An _⟩
 ·show (O (cn 40)*2^0-O (cn (-40))*2^0)*2^0=_;rw[u,u];decide
 ·show _<=O (cn (-40));rw[u];decide
 ·show O (cn 40)<=_;rw[u];decide
def P0(p:List Int):List Iv:=JG p 895 L_
theorem Aeb{p:List Int}(hp:Fewp p):∀ y∈P0 p,One p y/\∃ j,j<=895/\Wd j y:=by
 intro y hy;unfold P0 JG at hy;split at hy
 ·cases hy
 ·obtain⟨a,j,_,b,c⟩:=Aea 895 0 L_ OU (hp.deep 895 0 L_ rfl OU) y hy;exact⟨⟨c.lt,a⟩,j,by omega,c⟩
theorem Aut{p:List Int}:∀ y∈P0 p,IvOk 6 895 y:=by
 intro y hy;unfold P0 JG at hy;split at hy
 ·cases hy
 ·exact gI 895 L_ 0 sW (by decide) y hy
theorem gT{rs:List Rn}(h:LY rs=true)(h0:Y (M rs) ≠ []):Fewp (M rs):=by
 unfold LY at h;simp only[Ad,decide_eq_true_eq,BQ] at h;refine⟨h0,by rw[s];exact h.1,fun i => ?_⟩;by_cases hi:i<rs.length
 ·have e:(M rs).getD i 0=O (rs[i]):=by
   rw[Z,M,C7,Af hi];rfl
  rw[e];have hb:=(h.2 _ (Ds hi)).1;unfold D4 at hb;split at hb
  ·rename_i g;rw[g];exact Bv _
  ·rename_i g;exact kO ((Pa g).1 (by omega))
 ·rw[Bs (by rw[s];omega)];exact Bv _
theorem Fewp.kb{p}(hp:Fewp p):Kb 5 (Ab p)/\(Ab p).length<=9:=by
 obtain⟨lf,_,_,f0,hd,_⟩:=Cj hp.ne;have h:=(hd.length hp.ne).1;rw[lf] at h;have h2:=Bf p;have h3:=hp.len;obtain⟨n,hn⟩:∃ n,(Ab p).length=n+1:=⟨(Ab p).length-1,by have:=Aj.2 f0;omega⟩;have hb:=T5 hp.ne hp.len hp.co hn;refine⟨fun i => ?_,by omega⟩;refine Gd (k:=152) (Bp (hb i) ?_) (by decide);split
 ·exact B4 (by decide) (by decide)
 ·unfold T4;split
  ·exact Bp (AD _ (show 10<=2^4 by decide)) (by rw[<- C8];exact B4 (by decide) (by decide))
  ·have e1:(8:Nat)^9<=2^27:=by decide
   have e2:(17:Nat)^6<=2^25:=by decide
   refine Bp (Bu (z _ e1) e2) ?_;rw[<- C8,<- C8];exact B4 (by decide) (by decide)
theorem Fewp.fine{p}(hp:Fewp p):Om (Ab p):=⟨hp.kb.1.mono (by decide),hp.kb.2⟩
theorem Fewp.good{p}(hp:Fewp p):∀ r∈(Ab p).map cn,AN 5 r:=AI hp.kb.1
theorem Fewp.l9{p}(hp:Fewp p):((Ab p).map cn).length<=9:=by rw [N];exact hp.kb.2
theorem Auu{rs:List Rn}(hg:∀ r∈rs,AN 5 r)(hn:rs.length<=9)(hp:Fewp (M rs)) :
  H I 22 [sL pc rs] (A6t [A6n ((P0 (M rs)).map (Iv.out (Ab (M rs)))).length (G4 ((P0 (M rs)).map (Iv.out (Ab (M rs))))),A6m true]):=by
 have hd:=hp.deep 895 0 L_ rfl OU;have hlen:=GT hg hn;have hL:=Rw (p:=M rs) 895 0 L_ OU hd;have b1:=Ov hlen (O L_.r) L_.a;have b2:=Ov hlen (O L_.t) L_.b;have hdd:L_.d (M rs)<=10:=by unfold Iv.d;omega
 have nl:DP (M rs)=false:=MS (K:=5) (HJ (Cs hg)) (by decide) (by rw[s];omega);have k:=Aul hg hn hp.ne nl (n:=895) sW (by decide) hd (by omega) (by show Yw (cn (-40)) 0=true;decide) (by show Yw (cn 40) 0=true;decide) (by show ¬ Dd (O (cn (-40))) 0 (O (cn 40)) 0>0;rw[u,u];decide);have n0:=sR (-40) 0 (TV (n := -40) (by decide));have n1:=sR 40 0 (TV (n:=40) (by decide));refine A1f rs ((P0 (M rs)).map (Iv.out (Ab (M rs)))) 0 n0 n1 ?_;rw[N];exact k
def sd(p:List Int)(y:Iv)(m:Int)(c:Nat):Int:=G3 (Ab p) (O y.r) y.a (O y.t) y.b m c
theorem Auv{p:List Int}(hp:Y p ≠ [])(hl:2<=(Ab p).length){x y:Int}{a b:Nat}(h:x*2^b<y*2^a)(hz:ES (Ab p) y b=0):Vd p y b+1<=Vd p x a:=by
 have e1:=FV p x a b;have e2:=FV p y b a;have g:=Qj (Ab p) y b a;rw[Hn b a] at e2 g;rw[<- e1,<- e2,Hv,Hv];refine qE p hp hl (BT _) h ?_;rw[hz,Rr] at g;exact DI.1 g
theorem One.len{p:List Int}{y:Iv}(h:One p y):2<=(Ab p).length:=by
 apply Az;intro g;have:=Yv (p:=p) (by omega) (O y.r) (O y.t) y.a y.b;have:=h.v;omega
theorem One.ne{p:List Int}{y:Iv}(h:One p y):Y p ≠ []:=by
 intro g;have hz:prim p=[]:=by rw[Do,<- CL];exact g
 have h0:Ab p=[]:=by unfold Ab;rw[hz];rfl
 have:=h.len;rw[h0] at this;simp at this
theorem Aec(p:List Int)(lo:Int)(a:Nat)(hi:Int)(b:Nat)(x:Int)(c:Nat) : -1<=G3 p lo a hi b x c/\G3 p lo a hi b x c<=1:=by unfold G3; (repeat' split) <;> omega
theorem A5w{p:List Int}{y:Iv}{m:Int}{c:Nat}(h:m*2^y.a<=O y.r*2^c):sd p y m c=1:=by
 unfold sd G3;rw[if_pos];have hb:=Ri (m*2^y.a) (O y.r*2^c);have:Dd m c (O y.r) y.a ≠ 1:=fun g=>by have:=LZ.1 g;omega
 unfold Dd at this |-;omega
theorem A5x{p:List Int}{y:Iv}{m:Int}{c:Nat}(hlt:O y.r*2^y.b<O y.t*2^y.a)(h:O y.t*2^c<m*2^y.b):sd p y m c = -1:=by
 have h1:O y.r*2^c<m*2^y.a:=by
  have hA:=BT y.a;have hB:=BT y.b;have hC:=BT c;apply E1 (a:=2^y.b) _ (A0 hB);have e1:=B0 hlt hC;have e2:=B0 h hA;have e3:O y.r*2^c*2^y.b=O y.r*2^y.b*2^c:=D2 ..;have e4:O y.t*2^y.a*2^c=O y.t*2^c*2^y.a:=D2 ..;have e5:m*2^y.b*2^y.a=m*2^y.a*2^y.b:=D2 ..;omega
 unfold sd G3;rw[if_neg (by rw[LZ.2 h1];decide),if_pos (by rw[LZ.2 h];decide)]
theorem Auw{p:List Int}{y:Iv}(h:One p y){m:Int}{c:Nat}(h1:O y.r*2^c<m*2^y.a)(h2:m*2^y.b<=O y.t*2^c) :
  (sd p y m c<=0↔Vd p m c=Vd p (O y.t) y.b)/\(sd p y m c=0↔ES (Ab p) m c=0):=by
 have d1:¬ Dd m c (O y.r) y.a<=0:=by rw[LZ.2 h1];decide
 have d2:¬ Dd m c (O y.t) y.b>0:=by
  intro g;have hb:=Ri (m*2^y.b) (O y.t*2^c);have:Dd m c (O y.t) y.b=1:=by unfold Dd at g |-;omega
  have:=LZ.1 this;omega
 have e:sd p y m c=if ES (Ab p) m c=0 then 0 else if ES (Ab p) m c=ES (Ab p) (O y.t) y.b then -1 else 1:=by
  unfold sd G3;rw[if_neg d1,if_neg d2]
 constructor
 ·by_cases hlt:m*2^y.b<O y.t*2^c
  ·exact (gG h h1 hlt).1
  ·have heq:m*2^y.b=O y.t*2^c:=by omega
   rw[e,St heq,Auj heq];split
   ·simp
   ·simp
 ·rw[e];split
  ·rename_i g;simp[g]
  ·rename_i g;constructor
   ·intro hh;split at hh <;> omega
   ·intro hh;exact absurd hh g
theorem Aed{p:List Int}{y:Iv}(h:One p y){m:Int}{c:Nat}(hm:sd p y m c<=0){m':Int}{c':Nat}(hmm:m*2^c'<m'*2^c):sd p y m' c' = -1:=by
 have hC:=BT c;have hC':=BT c';have hA:=BT y.a;have hB:=BT y.b;by_cases g1:m'*2^y.b<=O y.t*2^c'
 ·have g2:O y.r*2^c<m*2^y.a:=by
   apply H'.1;intro g;rw[A5w g] at hm;exact absurd hm (by decide)
  have g3:O y.r*2^c'<m'*2^y.a:=by
   apply E1 (a:=2^c) _ (A0 hC);have e1:=B0 g2 hC';have e2:=B0 hmm hA;have e3:O y.r*2^c'*2^c=O y.r*2^c*2^c':=D2 ..;have e4:m*2^y.a*2^c'=m*2^c'*2^y.a:=D2 ..;have e5:m'*2^c*2^y.a=m'*2^y.a*2^c:=D2 ..;omega
  have g4:m*2^y.b<=O y.t*2^c:=by
   apply JE (a:=2^c') _ hC';have e1:=B0 hmm hB;have e2:=Ae g1 (A0 hC);have e3:m*2^y.b*2^c'=m*2^c'*2^y.b:=D2 ..;have e4:m'*2^c*2^y.b=m'*2^y.b*2^c:=D2 ..;have e5:O y.t*2^c*2^c'=O y.t*2^c'*2^c:=D2 ..;omega
  have v1:=(Auw h g2 g4).1.1 hm;have v2:Vd p m' c'<=Vd p m c:=L1 (A0 hmm);have v3:Vd p (O y.t) y.b<=Vd p m' c':=L1 g1;obtain⟨s1,s2⟩:=Auw h g3 g1;have s3:=s1.2 (by omega);have s4:sd p y m' c' ≠ 0:=by
   intro z;have:=Auv h.ne h.len hmm (s2.1 z);omega
  have hb:=(Aec (Ab p) (O y.r) y.a (O y.t) y.b m' c').1;unfold sd at s3 s4 |-;omega
 ·exact A5x h.lt (by omega)
theorem Wd.stp{k y}(h:Wd k y)(p:List Int):Wd (k+1) (stp p y):=by
 have hne:Dd (O y.r) y.a (O y.t) y.b ≠ 0:=by rw[Jk.2 h.lt];decide
 unfold Go.Proofs.YtajompaehjkgkaaGreat.stp;rw[if_neg hne];split
 ·exact h.halves.1
 ·exact h.halves.2
theorem Wd.stpN{k y}(h:Wd k y)(p:List Int):∀ n,Wd (k+n) (stpN p y n)
 | 0=>h
 | n+1=>(Wd.stpN h p n).stp p
def sX(p:List Int)(y:Iv)(k:Nat)(v:Int):Prop:=0<=sd p y v k/\sd p y (v+1) k<0
theorem sX.unique{p:List Int}{y:Iv}(h:One p y){k:Nat}{v w:Int}(hv:sX p y k v)(hw:sX p y k w):v=w:=by
 have key:∀ v w,sX p y k v->sX p y k w->¬ v<w:=by
  intro v w hv hw g;by_cases e:v+1=w
  ·have:=hv.2;rw[e] at this;have:=hw.1;omega
  ·have:=Aed h (A0 hv.2) (m':=w) (c':=k) (B0 (by omega) (BT k));have:=hw.1;omega
 have h1:=key v w hv hw;have h2:=key w v hw hv;omega
def Iv.yo(y:Iv):Iv:=⟨cn (O y.r),y.a,cn (O y.t),y.b⟩
theorem One.yo{p y}(h:One p y):One p y.yo:=⟨by show O (cn _)*_<O (cn _)*_;rw [u,u];exact h.lt,by show Vd p (O (cn _)) _-Vd p (O (cn _)) _=1;rw [u,u];exact h.v⟩
theorem Wd.yo{k y}(h:Wd k y):Wd k y.yo:=⟨by show (O (cn _)*_-O (cn _)*_)*_=_;rw [u,u];exact h.w,by show _<=O (cn _);rw [u];exact h.lo,by show O (cn _)<=_;rw [u];exact h.hi,h.a,h.b⟩
theorem A5y{C m:Nat}{y}(h:IvOk C m y):IvOk C m y.yo:=⟨B9 h.gr.fits,B9 h.gt.fits,h.a,h.b,by show (O (cn _)).natAbs<=_;rw [u];exact h.vr,by show (O (cn _)).natAbs<=_;rw [u];exact h.vt⟩
theorem Aux{n k:Nat}(h:n<=2^k):D4 n<=k+1:=by
 unfold D4;split
 ·omega
 ·rename_i h0;have:n.log2<k+1:=(Pa h0).2 (Dk h (PZ (by decide) (by omega)));omega
theorem Y1{p:List Int}(hp:Y p ≠ [])(x:Int)(a:Nat):Vd (Ab p) x a=Vd p x a:=by
 have e:BD (Ab p)=BD p:=by
  unfold BD;rw[MN hp]
 unfold Vd;rw[e]
theorem qF{p:List Int}(hp:Fewp p){y:Iv}(h:One p y)(hx:IvOk 6 895 y):T_ ((Ab p).map cn) y.r (y.a:Nat) y.t (y.b:Nat)=true:=by
 have lf:=(Cj hp.ne).1;have bn:∀ (r:Rn) (a:Nat),a<=895->(O r).natAbs<=2^6*2^a->Pz r (a:Nat)=true:=by
  intro r a ha hr;unfold Pz;rw[<- C8] at hr;have:=Aux hr;rw[decide_eq_true (show (a:Int)>=0 by omega),decide_eq_true (show (a:Int)<=1024 by omega),decide_eq_true (show D4 (O r).natAbs<=1024 by omega)];rfl
 unfold T_;rw[v,MS hp.kb.1 (by decide) (by have:=hp.kb.2;omega),lf,decide_eq_true h.len,bn _ _ hx.a hx.vr,bn _ _ hx.b hx.vt,F,F];rw[if_neg (by rw[Jk.2 h.lt];decide)];have hc:Rl (Ab p) (O y.r) y.a (O y.t) y.b=1:=by
  have e:Rl (Ab p) (O y.r) y.a (O y.t) y.b=Vd (Ab p) (O y.r) y.a-Vd (Ab p) (O y.t) y.b:=rfl;rw[e,Y1 hp.ne,Y1 hp.ne];exact h.v
 rw[decide_eq_true (show Dd (O y.r) y.a (O y.t) y.b = -1/\Rl (Ab p) (O y.r) y.a (O y.t) y.b=1 from ⟨Jk.2 h.lt,hc⟩)];rfl
section
variable {p:List Int} (hp:Fewp p) {y:Iv} (h:One p y) (hx:IvOk 6 895 y)
include hp
theorem qG:H I 20 [BW ((Ab p).map cn) y.r (y.a:Nat) y.t (y.b:Nat)] (BW ((Ab p).map cn) y.r (y.a:Nat) y.t (y.b:Nat)):=by
 have k:=pL hp.good hp.l9 y.r y.t (y.a:Nat) (y.b:Nat);rw[v,MN hp.ne] at k;exact k
theorem Aee:H I 75 [BW ((Ab p).map cn) y.r (y.a:Nat) y.t (y.b:Nat)] (BW ((Ab p).map cn) y.r (y.a:Nat) y.t (y.b:Nat)):=by
 have k:=Adr hp.good hp.l9 y.r y.t (y.a:Nat) (y.b:Nat);rw[v,MN hp.ne] at k;exact k
include h hx
end
end Go.Proofs.YtajompaehjkgkaaGreat
namespace Go.Ai
open Classical renaming byContradiction->Az
open Int renaming eq_of_mul_eq_mul_left->Gw,le_of_lt->A0,le_refl->Dp,lt_trichotomy->FD,mul_assoc->A9,mul_comm->A8,mul_eq_zero->FJ,mul_le_mul_of_nonneg_left->Ag,mul_le_mul_of_nonneg_right->Ae,mul_lt_mul_of_pos_left->Hl,mul_ne_zero->AG,mul_neg->DZ,mul_nonneg->A3,mul_one->CN,mul_pos->Ba,mul_right_comm->D2,mul_sub->EG,mul_zero->AC,natCast_mul->CZ,natCast_pow->CT,neg_mul->Nn,not_le->H',not_lt->IX,ofNat_le->A4x,ofNat_lt->A4w,pow_pos->EF,pow_succ->Ax,pow_zero->CD,toNat_of_nonneg->iK,zero_mul->CJ
open List renaming all_eq_true->BQ,countP_cons->L5,countP_eq_zero->qJ,eq_nil_of_length_eq_zero->A1,length_pos_iff->Aj,map_cons->Cw,map_nil->FK,mem_cons->CS,mem_cons_of_mem->AS,mem_cons_self->AZ,mem_map->DS,mem_range->Lo,nodup_cons->K7,range->Ao
open Nat renaming add_sub_cancel->F5,blt->Fa,lt_of_lt_of_le->EL,pow_le_pow_right->B4
open Or renaming inl->tE,inr->Nq
open Rat renaming div_def->Avt,intCast_add->JU,intCast_le_intCast->B8,intCast_mul->CI,intCast_natCast->Dz,intCast_neg->Aey,intCast_sub->iI,inv_pos->Avv,le_of_lt->GY,mul_nonneg->ET,mul_pos->Hx,natCast_add->Qs,natCast_mul->GA,one_mul->Avu
def Rx(s:Int):List Int:=[-s,2]
theorem T6(s x:Int):Aa (Rx s) x=2*x-s:=by unfold Rx;simp only [Aa];grind
def Fh:List Int->List Int
 | []=>[1]
 | s::ss=>Bo (Rx s) (Fh ss)
theorem gW(s:Int)(ss:List Int)(x:Int):Aa (Fh (s::ss)) x=Aa (Rx s) x*Aa (Fh ss) x:=AP _ _ x
theorem Y2(s:Int):BN (Rx s):=Od (Nq (by show (2:Int) ≠ 0;decide))
theorem Ll:∀ S:List Int,BN (Fh S)/\(Fh S).length=S.length+1
 | []=>⟨rfl,rfl⟩
 | s::ss=>by
  obtain⟨h1,h2⟩:=Ll ss;have e:BN (Fh (s::ss)):=PT _ _;have n1:Y (Rx s) ≠ []:=by rw[Y2 s];exact List.cons_ne_nil _ _
  have n2:Y (Fh ss) ≠ []:=by rw[h1];intro h;rw[h] at h2;simp at h2
  have h3:=Ji n1 n2;refine⟨e,?_⟩;rw[Y2 s,h1,h2] at h3;have h4:(Y (Fh (s::ss))).length=(Rx s).length+(ss.length+1)-1:=h3;rw[e] at h4;rw[h4];show 2+(ss.length+1)-1=ss.length+1+1;omega
theorem Aef{a b c r:List Int}(h1:DY [1] a b)(h2:DY [1] a c)(hr:∀ x,Aa r x=Aa b x*Aa c x):DY [1] a r:=by
 obtain⟨_,_,c1,u,v,hc1,e1⟩:=h1;obtain⟨_,_,c2,u',v',hc2,e2⟩:=h2;refine⟨FG _,FG _,c1*c2,Dl (Bo u (Dl (Bo u' a) (Bo v' c))) (Bo (Bo v b) u'),Bo v v',AG hc1 hc2,fun x => ?_⟩;have a1:=e1 x;have a2:=e2 x;simp only[BJ,AP,hr x];have o:Aa [1] x=1:=by simp[Aa]
 rw[o] at a1 a2 |-;generalize Aa u x=U at *
 generalize Aa v x=V at *
 generalize Aa u' x=U' at *
 generalize Aa v' x=V' at *
 generalize Aa a x=A at *
 generalize Aa b x=B at *
 generalize Aa c x=C at *
 have a3:c1*c2=(U*A+V*B)*(U'*A+V'*C):=by rw[<- a1,<- a2];grind
 rw[CN,a3];grind
theorem Auy{s t:Int}(h:s ≠ t):DY [1] (Rx s) (Rx t) :=
 ⟨FG _,FG _,s-t,[-1],[1],by omega,fun x=>by rw[T6,T6];simp only[Aa];grind⟩
theorem Aeg(a:List Int):DY [1] a [1]:=⟨FG _,FG _,1,[],[1],by decide,fun x=>by simp [Aa]⟩
theorem qH{a b r u:List Int}{k:Int}(hk:k ≠ 0)(h:DY [1] a b)(hr:∀ x,Aa r x=Aa a x*Aa u x+k*Aa b x):DY [1] a r:=by
 obtain⟨_,_,c,U,V,hc,e⟩:=h;refine⟨FG _,FG _,k*c,KT (Av k U) (Bo V u),V,AG hk hc,fun x => ?_⟩;have a1:=e x;simp only[EN,Ap,AP,hr x];generalize Aa U x=U at *
 generalize Aa V x=V at *
 generalize Aa u x=u at *
 generalize Aa a x=A at *
 generalize Aa b x=B at *
 rw[A9,a1];grind
theorem S3{a:List Int}:∀ {S:List Int},(∀ t∈S,DY [1] a (Rx t))->DY [1] a (Fh S)
 | [],_=>Aeg a
 | _::_,h=>Aef (h _ AZ) (S3 fun t ht=>h t (AS _ ht)) (gW _ _)
structure Fac (S p:List Int):Prop where
 nd:S.Nodup
 ne:Y p ≠ []
 ex:∃ h w:List Int,(∀ x,Aa p x=Aa h x*Aa (Fh S) x)/\(∀ x,Aa (Aq p) x=Aa h x*Aa w x) /\
  ∀ s∈S,∃ (u:List Int) (m:Int),0<m/\∀ x,Aa w x=Aa (Rx s) x*Aa u x+2*m*Aa (Fh (S.erase s)) x
theorem Auz{S p:List Int}(f:Fac S p):∃ h:List Int,DY h p (Aq p)/\∀ x,Aa p x=Aa h x*Aa (Fh S) x:=by
 obtain⟨nd,ne,h,w,e1,e2,e3⟩:=f;refine⟨h,?_,e1⟩;have h1:DY [1] w (Fh S):=S3 fun s hs=>by
  obtain⟨u,m,hm,e4⟩:=e3 s hs;have h2:DY [1] (Rx s) (Fh (S.erase s)):=S3 fun t ht=>Auy (by
   have:=(List.Nodup.mem_erase_iff nd).1 ht;exact fun k=>this.1 k.symm)
  exact (qH (k:=2*m) (by omega) h2 e4).comm
 exact h1.comm.mul h (fun x=>by simp[Aa]) e1 e2
theorem EE{c:Int}(hc:c ≠ 0)(p:List Int):(Y (Av c p)).length=(Y p).length:=by
 rw[Jg hc,AX]
theorem qI{S p:List Int}(f:Fac S p):∃ c d:Int,c ≠ 0/\d ≠ 0/\∀ x,c*Aa (Ab p) x=d*Aa (Fh S) x:=by
 have hp:=f.ne;obtain⟨h,hG,hpe⟩:=Auz f;obtain⟨la,h0,ca,ta,hl,m,hm,n,hn,hpa⟩:=Oh hp;obtain⟨lf,cf,tf,f0,fl,c,d,hc,hd,hcd⟩:=Tq la h0 ca ta (Ab p) rfl;obtain⟨_,_,_,_,_,_,hG2,_⟩:=Cj hp;generalize hGe:BE (y (prim p)) (Aq (y (prim p)))=G at *
 have lG:BN G:=by rw[<- hGe];exact Ep _ _
 generalize y (prim p)=a at *
 generalize Ab p=F at *
 have hh0:Y h ≠ []:=(hG.1.length hp).2;have hG0:Y G ≠ []:=(hG2.1.length hp).2;have hlen:=hG.length hG2 hh0;obtain⟨c3,k,hc3,hk⟩:=hG2.dv hG.1 hG.2.1;have hk0:Y k ≠ []:=by
  intro h1;apply hG0;have:Y (Av c3 G)=Y []:=EZ fun x=>by rw[Ap,hk x,Dg h1,AC];rfl
  have h2:=EE hc3 G;rw[this] at h2;exact A1 h2.symm
 have hkl:(Y k).length=1:=by
  have h1:=Ji hh0 hk0;have h2:Y (Av c3 G)=Y (Bo h k):=EZ fun x=>by rw[Ap,hk x,AP]
  rw[<- h2,EE hc3] at h1;have:=Aj.2 hh0;omega
 obtain⟨κ,hκ⟩:=LS hkl;have hκe:∀ x,Aa k x=κ:=fun x=>by rw[<- Dy,hκ];simp[Aa]
 have hκ0:κ ≠ 0:=by
  intro h1;have h2:=Eo (GM k) hk0;rw[hκ,h1] at h2;exact h2 rfl
 refine⟨m*d*κ,c3*(c*n),AG (AG hm hd) hκ0,AG hc3 (AG hc hn),fun x => ?_⟩;have h5:=Qd hh0 (Av (m*d*κ) F) (Av (c3*(c*n)) (Fh S)) (fun x=>by
  rw[Ap,Ap];have b1:=hpe x;have b2:=hpa x;have b3:=hcd x;have b4:=hk x;rw[hκe x] at b4;generalize Aa h x=H at *
  generalize Aa F x=F at *
  generalize Aa (Fh S) x=P at *
  generalize Aa p x=p at *
  generalize Aa a x=a at *
  generalize Aa G x=G at *
  have k1:H*(m*d*κ*F)=m*(d*((H*κ)*F)):=by grind
  have k2:H*(c3*(c*n)*P)=c3*(c*(n*(H*P))):=by grind
  rw[k1,k2,<- b4,<- b1,b2];have k3:c3*(c*(m*a))=m*(c3*(c*a)):=by grind
  rw[k3,b3];grind) x
 rw[Ap,Ap] at h5;exact h5
def pv:List Int->Int->Int->Int
 | [],_,_=>1
 | s::ss,x,q=>(2*x-s*q)*pv ss x q
theorem OV:∀ (S:List Int) (x q:Int),Hh (Fh S) x q=pv S x q
 | [],x,q=>rfl
 | s::ss,x,q=>by
  obtain⟨_,l1⟩:=Ll (s::ss);obtain⟨_,l2⟩:=Ll ss;have h1:=OV ss x q;unfold Hh at h1 |-;rw[l2,F5] at h1;rw[l1,F5];have h2:=Rp (r:=Fh ss) (tr:=ss.length) (by omega) x q (Rx s) 1 (by show 2<=1+1;decide);rw[h1] at h2;have e:hp (Rx s) x q 1=2*x-s*q:=by
   show q*(-s)+2*x^(0+1)=_;rw[Ax,CD];grind
  rw[e] at h2;rw[show (s::ss).length=1+ss.length by simp;omega];exact h2
theorem Ma{a b:Int}:((0<a/\0<b)\/(a<0/\b<0))↔0<a*b:=by
 constructor
 ·rintro (⟨h1,h2⟩ | ⟨h1,h2⟩)
  ·exact Ba h1 h2
  ·have:=Ba (show 0 < -a by omega) (show 0 < -b by omega);rwa [Int.neg_mul_neg] at this
 ·intro h;rcases FD a 0 with g | g | g
  ·rcases FD b 0 with k | k | k
   ·exact .inr ⟨g,k⟩
   ·subst k;simp at h
   ·have:=Ba (show 0 < -a by omega) k;rw[Nn] at this;omega
  ·subst g;simp at h
  ·rcases FD b 0 with k | k | k
   ·have:=Ba g (show 0 < -b by omega);rw[DZ] at this;omega
   ·subst k;simp at h
   ·exact .inl ⟨g,k⟩
theorem Ry(p:List Int)(x q:Int):JB p x q↔0<Hh p x q*Hh p (x+1) q:=Ma
theorem gX{f g:List Int}{c d:Int}(h:∀ x,c*Aa f x=d*Aa g x)(hl:f.length=g.length)(x q:Int):c*Hh f x q=d*Hh g x q:=by
 have hi:=CW (p:=Av c f) (q:=Av d g) (fun x=>by rw[Ap,Ap];exact h x);unfold Hh hp;rw[hl];have h1:=IV c 0 (fun i=>f.getD i 0) (fun i=>f.getD i 0) x q (g.length-1);have h2:=IV d 0 (fun i=>g.getD i 0) (fun i=>g.getD i 0) x q (g.length-1);have h3:hs (fun i=>c*f.getD i 0+0*f.getD i 0) x q (g.length-1)=hs (fun i=>d*g.getD i 0+0*g.getD i 0) x q (g.length-1):=Lj fun i _=>by
  have:=hi i;rw[AJ,AJ] at this;omega
 omega
theorem Qn{c d a b:Int}(hc:c ≠ 0)(hd:d ≠ 0)(h:c*a=d*b):a=0↔b=0:=by
 constructor
 ·intro e;rw[e,AC] at h;rcases FJ.1 h.symm with g | g
  ·exact absurd g hd
  ·exact g
 ·intro e;rw[e,AC] at h;rcases FJ.1 h with g | g
  ·exact absurd g hc
  ·exact g
theorem sY{c:Int}(hc:c ≠ 0):0<c*c:=Ma.1 (by omega)
theorem Y3{c d a b a' b':Int}(hc:c ≠ 0)(hd:d ≠ 0)(h:c*a=d*b)(h':c*a'=d*b'):0<a*a'↔0<b*b':=by
 have e:(c*c)*(a*a')=(d*d)*(b*b'):=by
  have:(c*c)*(a*a')=(c*a)*(c*a'):=by grind
  rw[this,h,h'];grind
 have p1:=sY hc;have p2:=sY hd;constructor
 ·intro k;have:=Ba p1 k;rw[e] at this;have:=Ma.2 this;omega
 ·intro k;have:=Ba p2 k;rw[<- e] at this;have:=Ma.2 this;omega
theorem gY{m:Int}:∀ {S:List Int} {x:Int},pv S x (2*m)=0↔∃ s∈S,m*s=x
 | [],x=>by simp[pv]
 | s::ss,x=>by
  have ih:=gY (m:=m) (S:=ss) (x:=x);simp only[pv];rw[FJ,ih];have e:2*x-s*(2*m)=2*(x-m*s):=by grind
  rw[e];constructor
  ·rintro (h | ⟨t,h1,h2⟩)
   ·exact⟨s,AZ,by omega⟩
   ·exact⟨t,AS _ h1,h2⟩
  ·rintro⟨t,h1,h2⟩;rcases CS.1 h1 with rfl | h1
   ·left;omega
   ·exact .inr ⟨t,h1,h2⟩
theorem sZ{m:Int}:∀ {S:List Int} {x:Int},(∀ s∈S,m*s ≠ x/\m*s ≠ x+1)->0<pv S x (2*m)*pv S (x+1) (2*m)
 | [],x,_=>by simp[pv]
 | s::ss,x,h=>by
  have ih:=sZ (m:=m) (S:=ss) (x:=x) fun t ht=>h t (AS _ ht);obtain⟨h1,h2⟩:=h s AZ;simp only[pv];have e1:2*x-s*(2*m)=2*(x-m*s):=by grind
  have e2:2*(x+1)-s*(2*m)=2*(x+1-m*s):=by grind
  rw[e1,e2];have h3:0<(2*(x-m*s))*(2*(x+1-m*s)):=Ma.1 (by omega);have h4:=Ba h3 ih;generalize pv ss x (2*m)=A at *
  generalize pv ss (x+1) (2*m)=B at *
  have e3:2*(x-m*s)*A*(2*(x+1-m*s)*B)=2*(x-m*s)*(2*(x+1-m*s))*(A*B):=by grind
  rw[e3];exact h4
def Y4(m u v:Int)(S:List Int):Nat:=S.countP fun s=>decide (u<m*s/\m*s<=v)
theorem W0(m u v:Int)(huv:u<=v):∀ S:List Int,Y4 m u (v+1) S=Y4 m u v S+S.countP fun s=>decide (m*s=v+1)
 | []=>rfl
 | s::ss=>by
  have ih:=W0 m u v huv ss;unfold Y4 at ih |-;rw[L5,L5,L5,ih];by_cases h1:m*s=v+1
  ·have a1:decide (u<m*s/\m*s<=v+1)=true:=by rw[decide_eq_true_eq];omega
   have a2:decide (u<m*s/\m*s<=v)=false:=by rw[decide_eq_false_iff_not];omega
   rw[a1,a2,decide_eq_true h1];simp;omega
  ·rw[decide_eq_false h1];by_cases h2:u<m*s/\m*s<=v
   ·rw[decide_eq_true h2,decide_eq_true (show u<m*s/\m*s<=v+1 by omega)];simp;omega
   ·rw[decide_eq_false h2,decide_eq_false (show ¬ (u<m*s/\m*s<=v+1) by omega)];simp
theorem T7{m y:Int}{S:List Int}(h:∀ s∈S,m*s ≠ y):S.countP (fun s=>decide (m*s=y))=0:=by
 rw[qJ];intro s hs;simpa using h s hs
theorem W1{m y:Int}(hm:m ≠ 0):∀ {S:List Int},S.Nodup->∀ s∈S,m*s=y->S.countP (fun s=>decide (m*s=y))=1
 | [],_,_,h,_=>by cases h
 | t::ss,nd,s,hs,e=>by
  obtain⟨n1,n2⟩:=K7.1 nd;rw[L5];by_cases h:m*t=y
  ·have h0:ss.countP (fun s=>decide (m*s=y))=0:=T7 fun r hr hk=>by
    have:m*r=m*t:=by rw[hk,h]
    have:=Gw hm this;subst this;exact n1 hr
   rw[h0,decide_eq_true h];rfl
  ·have hs':s∈ss:=by
    rcases CS.1 hs with rfl | k
    ·exact absurd e h
    ·exact k
   rw[W1 hm n2 s hs' e,decide_eq_false h];rfl
theorem Ava{m s t x:Int}(hm:2<=m)(h1:m*s=x+1)(h2:m*t=x):False:=by
 have h3:m*(s-t)=1:=by rw[EG];omega
 rcases FD (s-t) 0 with g | g | g
 ·have:=Ba (show 0<m by omega) (show 0 < -(s-t) by omega);rw[DZ] at this;omega
 ·rw[g] at h3;simp at h3
 ·have:=Ag (show 1<=s-t by omega) (show 0<=m by omega);omega
theorem cells{S p:List Int}(f:Fac S p)(hS:S ≠ [])(R:Int)(hR:0<=R):∃ Q0:Int,0<Q0/\∀ m u:Int,2<=m->Q0<=2*m->∀ k:Nat,(u.natAbs:Int)<=R*(2*m)->((u+(k:Int)).natAbs:Int)<=R*(2*m) ->
  wv 0 (D0 (Cv p) u (2*m))=wv 0 (D0 (Cv p) (u+(k:Int)) (2*m))+(Y4 m u (u+(k:Int)) S:Int):=by
 have hp:=f.ne;obtain⟨c,d,hc,hd,hcd⟩:=qI f;obtain⟨lf0,_,_,f0,_⟩:=Cj hp;obtain⟨lg,gl⟩:=Ll S;have hlen:(Ab p).length=(Fh S).length:=by
  have h1:=EE hc (Ab p);have h2:=EE hd (Fh S);have h3:Y (Av c (Ab p))=Y (Av d (Fh S)):=EZ fun x=>by rw[Ap,Ap];exact hcd x
  rw[lf0] at h1;rw[lg] at h2;rw[<- h1,h3,h2]
 have hSl:=Aj.2 hS;obtain⟨lf,hl1,hG,hcn⟩:=HW hp (by omega);obtain⟨Q0,hQ0,ht⟩:=OS R hR lf (by omega) hl1 hG hcn (Ab p).length (by omega);have hpr:=fun x q=>gX hcd hlen x q;have e1:Cv p=Ab p::GW (Ab p).length (Ab p) (prim (Aq (Ab p))):=by unfold Cv;rw[if_neg f0]
 rw[e1];refine⟨Q0,hQ0,fun m u hm hq k => ?_⟩;induction k with
 | zero =>
  intro _ _;have:Y4 m u (u+((0:Nat):Int)) S=0:=by
   unfold Y4;rw[qJ];intro s _;rw[decide_eq_true_eq];omega
  rw[this];simp
 | succ k ih =>
  intro h1 h2;have h4:=ih h1 (by omega);obtain⟨dd,htop,hd2,hd3,hd4⟩:=ht (2*m) (u+(k:Int)) ⟨by omega,by omega,by omega⟩ hq;have h5:=Uc htop;have e:u+((k+1:Nat):Int)=u+(k:Int)+1:=by omega
  rw[e,W0 m u (u+(k:Int)) (by omega)];generalize u+(k:Int)=x at *
  have z0:=Qn hc hd (hpr x (2*m));have z1:=Qn hc hd (hpr (x+1) (2*m));rw[OV,gY] at z0 z1;have st:JB (Ab p) x (2*m)↔0<pv S x (2*m)*pv S (x+1) (2*m):=by
   rw[Ry,Y3 hc hd (hpr x (2*m)) (hpr (x+1) (2*m)),OV,OV]
  by_cases hs:∃ s∈S,m*s=x+1
  ·obtain⟨s,hs1,hs2⟩:=hs;rw[W1 (by omega) f.nd s hs1 hs2];have hd1:dd=1:=by
    rcases hd2 with g | g
    ·exfalso;rcases hd4 g with k1 | k1
     ·have k2:=(Ry _ _ _).1 k1;rw[z1.2 ⟨s,hs1,hs2⟩] at k2;simp at k2
     ·obtain⟨t,_,t2⟩:=z0.1 k1;exact Ava hm hs2 t2
    ·exact g
   omega
  ·rw[T7 fun s hs1 hs2=>hs ⟨s,hs1,hs2⟩];have hd0:dd=0:=by
    rcases hd2 with g | g
    ·exact g
    ·exfalso;obtain⟨k1,k2⟩:=hd3 g;apply k1;rw[st];exact sZ fun s hs1=>⟨fun k3=>k2 (z0.2 ⟨s,hs1,k3⟩),fun k3=>hs ⟨s,hs1,k3⟩⟩
   omega
def wq(p:List Int)(x q:Int):Int:=wv 0 (D0 (Cv p) x q)
def Lst(p:List Int)(x q:Int):Prop:=¬ JB (Ab p) x q/\Hh (Ab p) x q ≠ 0
theorem MW(p:List Int)(hp:Y p ≠ [])(R:Int)(hR:0<=R):∃ Q0:Int,0<Q0/\∀ q x:Int,Wu R q x->Q0<=q->(Lst p x q->wq p x q=wq p (x+1) q+1)/\(¬ Lst p x q->wq p x q=wq p (x+1) q):=by
 obtain⟨_,_,_,f0,_⟩:=Cj hp;have e1:Cv p=Ab p::GW (Ab p).length (Ab p) (prim (Aq (Ab p))):=by unfold Cv;rw[if_neg f0]
 unfold wq Lst;by_cases hl:2<=(Ab p).length
 ·obtain⟨lf,hl1,hG,hcn⟩:=HW hp hl;obtain⟨Q0,hQ0,ht⟩:=OS R hR lf hl hl1 hG hcn (Ab p).length (by omega);refine⟨Q0,hQ0,fun q x hr hq => ?_⟩;rw[e1];obtain⟨d,htop,hd2,hd3,hd4⟩:=ht q x hr hq;have h5:=Uc htop;constructor
  ·intro ⟨g1,g2⟩;rcases hd2 with z | z
   ·rcases hd4 z with g | g
    ·exact absurd g g1
    ·exact absurd g g2
   ·omega
  ·intro g;rcases hd2 with z | z
   ·omega
   ·exact absurd (hd3 z) g
 ·refine⟨1,by decide,fun q x _ _ => ?_⟩;have hpos:=Aj.2 f0;have hl1:(Ab p).length=1:=by omega
  have hz:prim (Aq (Ab p))=[]:=by
   rw[Do];intro i;rw[C_,Bs (by omega),CJ]
  have e:GW (Ab p).length (Ab p) (prim (Aq (Ab p)))=[]:=by rw[hl1,hz];rfl
  have eh:∀ z,Hh (Ab p) z q=(Ab p).getD 0 0:=fun z=>by unfold Hh Go.Ai.hp;rw[hl1];rfl
  rw[e1,e];unfold D0;simp only[Cw,FK];unfold JB;rw[eh,eh];constructor
  ·intro ⟨g1,g2⟩;exfalso;omega
  ·intro _;rfl
theorem gZ{f a b:List Int}{c d:Int}(hc:c ≠ 0)(hd:d ≠ 0)(lf:BN f)(la:BN a)(lb:BN b)(ha:a ≠ [])(hb:b ≠ [])(h:∀ x,c*Aa f x=d*(Aa a x*Aa b x))(x q:Int):c*Hh f x q=d*(Hh a x q*Hh b x q):=by
 have la':=Aj.2 ha;have lb':=Aj.2 hb;have hi:=CW (p:=Av c f) (q:=Av d (Bo a b)) (fun x=>by rw[Ap,Ap,AP];exact h x);have hlen:f.length=a.length+b.length-1:=by
  have h1:=EE hc f;have h2:=EE hd (Bo a b);have h3:Y (Av c f)=Y (Av d (Bo a b)):=Fi hi;have h4:=Ji (CU la ha) (CU lb hb);rw[lf] at h1;rw[h4,la,lb] at h2;rw[<- h1,h3,h2]
 have hm:=Rp (r:=b) (tr:=b.length-1) (by omega) x q a (a.length-1) (by omega);unfold Hh;rw[show f.length-1=a.length-1+(b.length-1) by omega,<- hm];unfold hp;have h1:=IV c 0 (fun i=>f.getD i 0) (fun i=>f.getD i 0) x q (a.length-1+(b.length-1));have h2:=IV d 0 (fun i=>(Bo a b).getD i 0) (fun i=>(Bo a b).getD i 0) x q (a.length-1+(b.length-1));have h3:hs (fun i=>c*f.getD i 0+0*f.getD i 0) x q (a.length-1+(b.length-1))=hs (fun i=>d*(Bo a b).getD i 0+0*(Bo a b).getD i 0) x q (a.length-1+(b.length-1)):=Lj fun i _=>by
  have:=hi i;rw[AJ,AJ] at this;omega
 omega
theorem T8{s t a b:Int}(h:0<a*b):0<s*a*(t*b)↔0<s*t:=by
 have e:s*a*(t*b)=s*t*(a*b):=by grind
 rw[e];constructor
 ·intro g;apply H'.1;intro z;have:=Ae z (A0 h);omega
 ·intro g;exact Ba g h
theorem qK{P A B:List Int}{c d:Int}(hc:c ≠ 0)(hd:d ≠ 0)(hP:Y P ≠ [])(hA:Y A ≠ [])(hB:Y B ≠ [])(h:∀ x,c*Aa (Ab P) x=d*(Aa (Ab A) x*Aa (Ab B) x))(hG:DY [1] (Ab A) (Ab B))(R:Int)(hR:0<=R) :
  ∃ Q0:Int,0<Q0/\∀ q x:Int,Wu R q x->Q0<=q->wq P x q-wq P (x+1) q=(wq A x q-wq A (x+1) q)+(wq B x q-wq B (x+1) q):=by
 obtain⟨Q1,h1,k1⟩:=MW P hP R hR;obtain⟨Q2,h2,k2⟩:=MW A hA R hR;obtain⟨Q3,h3,k3⟩:=MW B hB R hR;obtain⟨L4,Q4,_,h4,k4⟩:=OR R hR hG;obtain⟨lf,_,_,f0,_⟩:=Cj hP;obtain⟨la,_,_,a0,_⟩:=Cj hA;obtain⟨lb,_,_,b0,_⟩:=Cj hB;refine⟨Q1+Q2+Q3+Q4,by omega,fun q x hr hq => ?_⟩;have v1:=gZ hc hd lf la lb a0 b0 h x q;have v2:=gZ hc hd lf la lb a0 b0 h (x+1) q;obtain⟨p1,p2⟩:=k1 q x hr (by omega);obtain⟨a1,a2⟩:=k2 q x hr (by omega);obtain⟨b1,b2⟩:=k3 q x hr (by omega);have g4:=fun g=>(k4 q x hr (by omega) g).1;have z1:=Qn hc hd v1;have s1:=Y3 hc hd v1 v2;unfold Lst at *
 simp only[Ry] at p1 p2 a1 a2 b1 b2 g4;generalize Hh (Ab P) x q=F at *
 generalize Hh (Ab P) (x+1) q=F' at *
 generalize Hh (Ab A) x q=u at *
 generalize Hh (Ab A) (x+1) q=u' at *
 generalize Hh (Ab B) x q=v at *
 generalize Hh (Ab B) (x+1) q=v' at *
 have key:(¬ 0<F*F'/\F ≠ 0->(¬ 0<u*u'/\u ≠ 0)\/(¬ 0<v*v'/\v ≠ 0))/\(¬ 0<u*u'/\u ≠ 0->(¬ 0<F*F'/\F ≠ 0)/\¬ (¬ 0<v*v'/\v ≠ 0))/\(¬ 0<v*v'/\v ≠ 0->(¬ 0<F*F'/\F ≠ 0)/\¬ (¬ 0<u*u'/\u ≠ 0)):=by
  have hF:F ≠ 0↔u ≠ 0/\v ≠ 0:=by
   constructor
   ·intro g;refine⟨fun z=>g (z1.2 (by rw[z,CJ])),fun z=>g (z1.2 (by rw[z,AC]))⟩
   ·intro ⟨g1,g2⟩ z;exact AG g1 g2 (z1.1 z)
  by_cases su:0<u*u'
  ·have e:u*v*(u'*v')=v*u*(v'*u'):=by grind
   rw[e,T8 su] at s1;have u0:u ≠ 0:=by intro z;rw[z,CJ] at su;omega
   refine⟨fun g=>Nq ⟨fun z=>g.1 (s1.2 z),(hF.1 g.2).2⟩,fun g=>absurd su g.1,fun g=>⟨⟨fun z=>g.1 (s1.1 z),hF.2 ⟨u0,g.2⟩⟩,fun z=>z.1 su⟩⟩
  ·have sv:=g4 su;rw[T8 sv] at s1;have v0:v ≠ 0:=by intro z;rw[z,CJ] at sv;omega
   refine⟨fun g=>tE ⟨fun z=>g.1 (s1.2 z),(hF.1 g.2).1⟩,fun g=>⟨⟨fun z=>g.1 (s1.1 z),hF.2 ⟨g.2,v0⟩⟩,fun z=>z.1 sv⟩,fun g=>absurd sv g.1⟩
 obtain⟨kA,kB,kC⟩:=key;by_cases lA:¬ 0<u*u'/\u ≠ 0
 ·obtain⟨q1,q2⟩:=kB lA;have:=p1 q1;have:=a1 lA;have:=b2 q2;omega
 ·by_cases lB:¬ 0<v*v'/\v ≠ 0
  ·obtain⟨q1,q2⟩:=kC lB;have:=p1 q1;have:=a2 q2;have:=b1 lB;omega
  ·have q1:¬ (¬ 0<F*F'/\F ≠ 0):=fun z=>by
    rcases kA z with g | g
    ·exact lA g
    ·exact lB g
   have:=p2 q1;have:=a2 lA;have:=b2 lB;omega
theorem S4(p:List Int)(x q c:Int)(hc:0<c):wq p (c*x) (c*q)=wq p x q:=by unfold wq;rw [HN _ _ _ _ hc]
theorem S5{P A B:List Int}{c d:Int}(hc:c ≠ 0)(hd:d ≠ 0)(hP:Y P ≠ [])(hA:Y A ≠ [])(hB:Y B ≠ [])(h:∀ x,c*Aa (Ab P) x=d*(Aa (Ab A) x*Aa (Ab B) x))(hG:DY [1] (Ab A) (Ab B)){x y q:Int}(hq:0<q)(hxy:x<=y) :
  wq P x q-wq P y q=(wq A x q-wq A y q)+(wq B x q-wq B y q):=by
 obtain⟨Q0,hQ0,hm⟩:=qK hc hd hP hA hB h hG ((x.natAbs:Int)+(y.natAbs:Int)) (by omega);have h1:(0:Int)<Q0*q:=Ba hQ0 hq;have hQq:Q0<=Q0*q:=by
  have:=Ag (show (1:Int)<=q by omega) (show 0<=Q0 by omega);omega
 have hb:∀ z:Int,(z.natAbs:Int)<=(x.natAbs:Int)+(y.natAbs:Int)->((Q0*z).natAbs:Int)<=((x.natAbs:Int)+(y.natAbs:Int))*(Q0*q):=by
  intro z hz;have h2:=CY (a:=Q0) (A:=Q0*q) (by omega) hz;have e:Q0*q*((x.natAbs:Int)+(y.natAbs:Int))=((x.natAbs:Int)+(y.natAbs:Int))*(Q0*q):=A8 ..;omega
 have bx:=hb x (by omega);have by':=hb y (by omega);have hd:0<=Q0*(y-x):=A3 (by omega) (by omega);have e1:Q0*x+((Q0*(y-x)).toNat:Int)=Q0*y:=by rw[iK hd,EG];omega
 have key:∀ k:Nat,Q0*x+(k:Int)<=Q0*y->wq P (Q0*x) (Q0*q)-wq P (Q0*x+k) (Q0*q)=(wq A (Q0*x) (Q0*q)-wq A (Q0*x+k) (Q0*q))+(wq B (Q0*x) (Q0*q)-wq B (Q0*x+k) (Q0*q)):=by
  intro k;induction k with
  | zero=>intro _;simp
  | succ k ih =>
   intro hk;have i1:=ih (by omega);have i2:=hm (Q0*q) (Q0*x+(k:Int)) ⟨h1,by omega,by omega⟩ hQq;rw[show Q0*x+((k+1:Nat):Int)=Q0*x+(k:Int)+1 by omega];omega
 have h3:=key (Q0*(y-x)).toNat (by omega);rw[e1] at h3;simp only[S4 _ _ _ _ hQ0] at h3;exact h3
theorem Y5(p:List Int)(hp:Y p ≠ []){x y q:Int}(hq:0<q)(hxy:x<=y)(hV:1<=wq p x q-wq p y q) :
  ∃ c0:Int,0<c0/\∀ c:Int,c0<=c->∃ z:Int,c*x<=z/\z+1<=c*y/\Hh (Ab p) z (c*q)*Hh (Ab p) (z+1) (c*q)<=0:=by
 obtain⟨Q0,hQ0,hm⟩:=MW p hp ((x.natAbs:Int)+(y.natAbs:Int)) (by omega);refine⟨Q0,hQ0,fun c hcc => ?_⟩;have hc0:0<c:=by omega
 have hcq:c<=c*q:=by
  have:=Ag (show (1:Int)<=q by omega) (show 0<=c by omega);omega
 have hb:∀ z:Int,(z.natAbs:Int)<=(x.natAbs:Int)+(y.natAbs:Int)->((c*z).natAbs:Int)<=((x.natAbs:Int)+(y.natAbs:Int))*(c*q):=by
  intro z hz;have h2:=CY (a:=c) (A:=c*q) (by omega) hz;have e:c*q*((x.natAbs:Int)+(y.natAbs:Int))=((x.natAbs:Int)+(y.natAbs:Int))*(c*q):=A8 ..;omega
 have bx:=hb x (by omega);have by':=hb y (by omega);apply Az;intro hn;have key:∀ k:Nat,c*x+(k:Int)<=c*y->wq p (c*x) (c*q)=wq p (c*x+k) (c*q):=by
  intro k;induction k with
  | zero=>intro _;simp
  | succ k ih =>
   intro hk;have i1:=ih (by omega);have i2:=(hm (c*q) (c*x+(k:Int)) ⟨by omega,by omega,by omega⟩ (by omega)).2 (fun g=>hn ⟨c*x+(k:Int),by omega,by omega,by
    have:=g.1;rw[Ry] at this;omega⟩)
   rw[show c*x+((k+1:Nat):Int)=c*x+(k:Int)+1 by omega];omega
 have hd:0<=c*(y-x):=A3 (by omega) (by omega);have e1:c*x+((c*(y-x)).toNat:Int)=c*y:=by rw[iK hd,EG];omega
 have h3:=key (c*(y-x)).toNat (by omega);rw[e1,S4 _ _ _ _ hc0,S4 _ _ _ _ hc0] at h3;omega
def hH(s t:List Int)(n i:Nat):List Int:=if i<n then Da i s else Da (i-n) t
def tA(m n A:Nat):Nat:=(2*((n+m)*A))^(n+m-1)
theorem Avb{s t:List Int}{m n A:Nat}(hs:s.length=m+1)(ht:t.length=n+1)(hm:1<=m)(lt:BN t)(hG:DY [1] s t)(hA:∀ i,(s.getD i 0).natAbs<=A)(hB:∀ i,(t.getD i 0).natAbs<=A)(hA0:0<A) :
  ∃ (U V:List Int) (R:Int),R ≠ 0/\(∀ x,pq U x*pq s x+pq V x*pq t x=(R:Rat))/\V.length=m/\∀ c∈V,c.natAbs<=tA m n A:=by
 obtain⟨d,R,hd,⟨i0,hi0,hne⟩,hid⟩:=T3 (hH s t n) (n+m) A (fun i j=>by
  unfold hH;split
  ·rw[Cd];split
   ·exact hA _
   ·simp
  ·rw[Cd];split
   ·exact hB _
   ·simp) hA0 (by omega) (fun i hi=>by
  unfold hH;split
  ·rw[GV];omega
  ·rw[GV];omega)
 have hid2:∀ x,Aa ((Ao n).map d) x*Aa s x+Aa ((Ao m).map fun i=>d (n+i)) x*Aa t x=R:=by
  intro x;rw[<- hid x,Sx,<- Jl,<- Jl,<- L',<- L'];congr 1
  ·apply Kj;intro i hi;unfold hH;rw[if_pos hi,Df,A9]
  ·apply Kj;intro i hi;unfold hH;rw[if_neg (by omega),Df,show n+i-n=i by omega,A9]
 refine⟨(Ao n).map d,(Ao m).map fun i=>d (n+i),R,?_,fun x=>Ru hid2 x,by simp,?_⟩
 ·intro hR;rw[hR] at hid2;have gU:∀ i,((Ao n).map d).getD i 0=if i<n then d i else 0:=fun i=>HF d n i;have gV:∀ i,((Ao m).map fun i=>d (n+i)).getD i 0=if i<m then d (n+i) else 0:=fun i=>HF (fun i=>d (n+i)) m i;have lU:((Ao n).map d).length=n:=by simp
  generalize (Ao n).map d=U at *
  generalize ((Ao m).map fun i=>d (n+i))=V at *
  obtain⟨_,_,c,u,v,hc,huv⟩:=hG;have hD:Dv t U:=by
   refine⟨c,Dl (Bo v U) (Av (-1) (Bo u V)),hc,fun x => ?_⟩;have h1:=huv x;have h3:=hid2 x;rw[BJ,AP,Ap,AP];have e1:Aa [1] x=1:=by simp[Aa]
   rw[e1,CN] at h1;rw[h1];generalize Aa u x=a at *
   generalize Aa v x=b at *
   generalize Aa U x=y at *
   generalize Aa V x=w at *
   generalize Aa s x=z at *
   generalize Aa t x=r at *
   have e2:y*z = -(w*r):=by omega
   have e3:(a*z+b*r)*y=a*(y*z)+b*r*y:=by grind
   rw[e3,e2];grind
  have hU0:Y U=[]:=by
   apply Az;intro hz;have:=(hD.length hz).1;rw[lt,ht] at this;have:=Bf U;omega
  have hUz:=CL.1 hU0;have hUe:∀ x,Aa U x=0:=fun x=>by rw[<- Dy,hU0];rfl
  have hVe:=MG (p:=t) (q:=V) (by rw[lt];intro e;rw[e] at ht;simp at ht) (fun x=>by
   have:=hid2 x;rw[hUe x] at this;rw[A8];omega)
  have hVz:∀ i,V.getD i 0=0:=fun i=>by
   have:=CW (p:=V) (q:=[]) (fun x=>by rw[hVe x];rfl) i;rw[this];rfl
  by_cases hlt:i0<n
  ·have:=gU i0;rw[hUz i0,if_pos hlt] at this;exact hne this.symm
  ·have:=gV (i0-n);rw[hVz,if_pos (by omega),show n+(i0-n)=i0 by omega] at this;exact hne this.symm
 ·intro c hc;obtain⟨i,_,rfl⟩:=DS.1 hc;exact hd _
def S6(m n A X:Nat):Nat:=tA m n A*zV X m*(A*zD X (n+1))
theorem A5z{s t U V:List Int}{R:Int}{A B X:Nat}{a b e u w:Rat}(hR:R ≠ 0)(hid:∀ x,pq U x*pq s x+pq V x*pq t x=(R:Rat))(hA:∀ c∈t,c.natAbs<=A)(hB:∀ c∈V,c.natAbs<=B)
  (ha:Bd a X) (hb:Bd b X) (hsa:Bd (pq s a) e) (htb:Bd (pq t b) e) (hU:Bd (pq U a) u) (hw:Bd (b-a) w):1<=u*e+(B*zV X V.length)*(e+w*(A*zD X t.length)):=by
 have h1:=hid a;have d1:=K4 a b t;have b1:=Qk ha hb t hA;have bV:=MT ha V hB;have bta:Bd (pq t a) (e+w*(A*zD X t.length)):=by
  have:=htb.sub (hw.mul b1);have e1:pq t a=pq t b-(b-a)*dD t a b:=by grind
  rw[e1];exact this
 have hb:=(hU.mul hsa).add (bV.mul bta);rw[h1] at hb;unfold Bd at hb;have hR1:(1:Rat)<=(R:Rat)\/(R:Rat) <= -1:=by
  rcases Int.lt_or_gt_of_ne hR with g | g
  ·right;have:=B8.2 (show R <= -1 by omega);simpa using this
  ·left;have:=B8.2 (show (1:Int)<=R by omega);simpa using this
 grind
theorem qL(D:Int)(s:Int):((s+1:Int):Rat) / (D:Rat)-(s:Rat) / (D:Rat)=1 / (D:Rat):=by
 rw[JU];simp;grind
theorem A1t(D:Int)(hD:0<D):Bd (1 / (D:Rat)) (1 / (D:Rat)):=by
 have hD0:=K5 hD;have:0<1 / (D:Rat):=by
  rw[Avt,Avu];exact Avv.2 hD0
 unfold Bd;constructor <;> grind
theorem T9{f:List Int}{A X:Nat}{z D:Int}(hD:0<D)(hA:∀ c∈f,c.natAbs<=A)(h1 : -(X*D)<=z)(h2:z+1<=X*D)(h:Hh f z D*Hh f (z+1) D<=0){E:Nat}(hE:A*zD X f.length<=E):Bd (pq f ((z:Rat) / (D:Rat))) (1 / (D:Rat)*(E:Nat)):=by
 have ba:=Jm (X:=X) hD (z:=z) h1 (by omega);have ba1:=Jm (X:=X) hD (z:=z+1) (by omega) h2;have d1:=K4 ((z:Rat) / (D:Rat)) (((z+1:Int):Rat) / (D:Rat)) f;have b1:=Qk ba ba1 f hA;have b1':Bd (dD f ((z:Rat) / (D:Rat)) (((z+1:Int):Rat) / (D:Rat))) (E:Nat):=b1.mono (by
  rw[<- GA];have:=B8.2 (A4x.2 hE);rw[Dz,Dz] at this;exact this)
 refine Sz (MU hD h) ?_;have e:pq f (((z+1:Int):Rat) / (D:Rat))-pq f ((z:Rat) / (D:Rat))=1 / (D:Rat)*dD f ((z:Rat) / (D:Rat)) (((z+1:Int):Rat) / (D:Rat)):=by rw[d1,qL D];grind
 rw[e];exact (A1t D hD).mul b1'
theorem Avc{i D q c K w M:Rat}(hi:i*D=1)(hD:D=c*q)(hq:0<q)(hc:K+1<=c)(hK:0<=K)(hw:w*M*q+1<=q)(h:1<=K*i+w*M):False:=by
 have hc0:0<c:=by grind
 have e1:(i*q)*c=1:=by rw[<- hi,hD];grind
 have hj:0<i*q:=by
  apply Az;intro hn;have:=ET (show 0 <= -(i*q) by grind) (GY hc0);grind
 have h1:=ET (show 0<=K*i+w*M-1 by grind) (GY hq);have h2:1<=K*(i*q):=by grind
 have h3:=ET (show 0<=K*(i*q)-1 by grind) (GY hc0);have h4:c<=K:=by
  have e:(K*(i*q)-1)*c=K*((i*q)*c)-c:=by grind
  rw[e,e1] at h3;grind
 grind
theorem hO{p1 p2:List Int}(h1:Y p1 ≠ [])(h2:Y p2 ≠ [])(hG:DY [1] (Ab p1) (Ab p2)){m n A X:Nat}(hm:(Ab p1).length=m+1)(hn:(Ab p2).length=n+1)(m1:1<=m)(hA:∀ i,((Ab p1).getD i 0).natAbs<=A)(hB:∀ i,((Ab p2).getD i 0).natAbs<=A)(hA0:0<A)
  {x y q:Int} (hq:0<q) (hxy:x<=y) (hx : -(X*q)<=x) (hy:y<=X*q) (hV1:1<=wq p1 x q-wq p1 y q) (hV2:1<=wq p2 x q-wq p2 y q):q<=(y-x)*(S6 m n A X:Nat):=by
 obtain⟨c1,hc1,k1⟩:=Y5 p1 h1 hq hxy hV1;obtain⟨c2,hc2,k2⟩:=Y5 p2 h2 hq hxy hV2;obtain⟨lt,_⟩:=Cj h2;obtain⟨U,V,R,hR,hid,hVl,hVb⟩:=Avb hm hn m1 lt hG hA hB hA0;generalize Ab p1=s at *
 generalize Ab p2=t at *
 obtain⟨Au,hAu⟩:=qA U;have hAs:∀ c∈s,c.natAbs<=A:=fun c hc=>by obtain⟨i,rfl⟩:=OT hc;exact hA i
 have hAt:∀ c∈t,c.natAbs<=A:=fun c hc=>by obtain⟨i,rfl⟩:=OT hc;exact hB i
 generalize hE:A*zD X s.length+A*zD X t.length=E;generalize hv:tA m n A*zV X V.length=v;generalize hu:Au*zV X U.length=u;generalize hK:(u+v)*E=K;have hk0:(0:Int)<((K+1:Nat):Int):=by omega
 have hcc:(0:Int)<c1+c2:=by omega
 have g1:(c1+c2)<=(c1+c2)*((K+1:Nat):Int):=by
  have:=Ag (show (1:Int)<=((K+1:Nat):Int) by omega) (A0 hcc);omega
 have g2:((K+1:Nat):Int)<=(c1+c2)*((K+1:Nat):Int):=by
  have:=Ae (show (1:Int)<=c1+c2 by omega) (A0 hk0);omega
 generalize (c1+c2)*((K+1:Nat):Int)=c at *
 have hc0:0<c:=by omega
 obtain⟨z,z1,z2,fz⟩:=k1 c (by omega);obtain⟨w,w1,w2,fw⟩:=k2 c (by omega);have hD:0<c*q:=Ba hc0 hq;have sx:=Ag hx (A0 hc0);have sy:=Ag hy (A0 hc0);have ex:c * -(X*q) = -(X*(c*q)):=by grind
 have ey:c*(X*q)=X*(c*q):=by grind
 rw[ex] at sx;rw[ey] at sy;have hDq:(c*q:Int)=c*q:=rfl;have d1:w-z<=c*(y-x):=by rw[EG];omega
 have d2 : -(c*(y-x))<=w-z:=by rw[EG];omega
 generalize hDD:c*q=D at *
 have ba:=Jm (X:=X) hD (z:=z) (by omega) (by omega);have bb:=Jm (X:=X) hD (z:=w) (by omega) (by omega);have sa:=T9 (X:=X) hD hAs (by omega) (by omega) fz (E:=E) (by omega);have tb:=T9 (X:=X) hD hAt (by omega) (by omega) fw (E:=E) (by omega);have bU:=MT ba U hAu;have hD0:=K5 hD;have hq0:=K5 hq;have hwd:Bd ((w:Rat) / (D:Rat)-(z:Rat) / (D:Rat)) (((y-x:Int):Rat) / (q:Rat)):=by
  have r1:=B8.2 d1;have r2:=B8.2 d2;have eD:(D:Rat)=(c:Rat)*(q:Rat):=by rw[<- hDD,CI]
  rw[Aey,CI,iI w z] at r2;rw[CI,iI w z] at r1;have e1:((w:Rat) / (D:Rat)-(z:Rat) / (D:Rat))*(D:Rat)=(w:Rat)-(z:Rat):=by grind
  have e2:((y-x:Int):Rat) / (q:Rat)*(D:Rat)=(c:Rat)*((y-x:Int):Rat):=by rw[eD];grind
  generalize (w:Rat) / (D:Rat)-(z:Rat) / (D:Rat)=g at *
  generalize ((y-x:Int):Rat) / (q:Rat)=r at *
  rw[<- e1,<- e2] at r1 r2;generalize (D:Rat)=D' at *
  unfold Bd;constructor
  ·apply Az;intro hn;have:=Hx (show 0 < -r-g by grind) hD0;grind
  ·apply Az;intro hn;have:=Hx (show 0<g-r by grind) hD0;grind
 have hh:=A5z hR hid hAt hVb ba bb sa tb bU hwd;apply IX.1;intro hlt;have hlt':=B8.2 (show (y-x)*(S6 m n A X:Nat)+1<=q by omega);rw[JU,CI] at hlt';have eM:((S6 m n A X:Nat):Rat)=(v:Rat)*((A:Rat)*(zD X t.length:Nat)):=by
  unfold S6;rw[<- hv,hVl,hn];simp only[GA]
 have ev:(v:Rat)=(tA m n A:Nat)*(zV X V.length:Nat):=by rw[<- hv,GA]
 have eu:(u:Rat)=(Au:Rat)*(zV X U.length:Nat):=by rw[<- hu,GA]
 have eK:(K:Rat)=((u:Rat)+(v:Rat))*(E:Rat):=by rw[<- hK,GA,Qs]
 rw[<- ev,<- eu] at hh;have e1:((y-x:Int):Rat) / (q:Rat)*(q:Rat)=((y-x:Int):Rat):=by grind
 have hcK:=B8.2 g2;refine Avc (i:=1 / (D:Rat)) (D:=(D:Rat)) (q:=(q:Rat)) (c:=(c:Rat)) (K:=(K:Rat)) (w:=((y-x:Int):Rat) / (q:Rat)) (M:=((S6 m n A X:Nat):Rat)) (by grind) (by rw[<- hDD,CI]) hq0 ?_ ?_ ?_ ?_
 ·rw[Dz,Qs] at hcK;simpa using hcK
 ·exact Rat.natCast_nonneg
 ·have e2:((y-x:Int):Rat) / (q:Rat)*((S6 m n A X:Nat):Rat)*(q:Rat)=((y-x:Int):Rat)*((S6 m n A X:Nat):Rat):=by
   generalize ((y-x:Int):Rat) / (q:Rat)=r at *
   rw[<- e1];grind
  rw[e2];have e3:((((S6 m n A X:Nat):Int)):Rat)=((S6 m n A X:Nat):Rat):=Dz _;rw[e3] at hlt';simpa using hlt'
 ·rw[eK,eM];generalize ((y-x:Int):Rat) / (q:Rat)=r at *
  generalize 1 / (D:Rat)=i at *
  grind
theorem iA{s t:List Int}(hs:Y s ≠ [])(h:(BE s t).length<2):DY [1] s t:=by
 have h0:=H6 (t:=t) hs;have h1:=Aj.2 h0;obtain⟨c,hc⟩:=LS (g:=BE s t) (by omega);have ht:=OL (t:=t) hs;have hG:=FT s t;rw[hc] at hG ht;have hc0:c ≠ 0:=by
  intro z;rw[z] at ht;exact absurd ht (by decide)
 exact DY.gscaled (m:=c) (n:=1) hc0 (by decide) (fun x=>by simp[Aa]) hG
theorem Aeh{p:List Int}(hp:Y p ≠ []):DY [1] (Ab p) (Aq (Ab p)):=by
 obtain⟨lf,_,_,f0,_,_,_,h⟩:=Cj hp;exact iA (CU lf f0) (by omega)
theorem Avd{f g k:List Int}{c:Int}(hc:c ≠ 0)(h:∀ x,c*Aa f x=Aa g x*Aa k x)(hf:DY [1] f (Aq f)):DY [1] g k/\DY [1] g (Aq g)/\DY [1] k (Aq k):=by
 obtain⟨_,_,c0,u,v,hc0,e⟩:=hf;have hd:∀ x,c*Aa (Aq f) x=Aa (Aq g) x*Aa k x+Aa g x*Aa (Aq k) x:=fun x=>by
  rw[<- GR];exact ML (fun x=>by rw[Ap];exact h x) x
 have o:∀ x,Aa [1] x=1:=fun x=>by simp[Aa]
 refine⟨⟨FG _,FG _,c0*c,Dl (Bo u k) (Bo v (Aq k)),Bo v (Aq g),AG hc0 hc,fun x => ?_⟩,⟨FG _,FG _,c0*c,Dl (Bo u k) (Bo v (Aq k)),Bo v k,AG hc0 hc,fun x => ?_⟩,⟨FG _,FG _,c0*c,Dl (Bo u g) (Bo v (Aq g)),Bo v g,AG hc0 hc,fun x => ?_⟩⟩;all_goals
  have e1:=e x;have e2:=h x;have e3:=hd x;rw[o,CN] at e1;simp only[o,CN,BJ,AP];generalize Aa u x=U at *
  generalize Aa v x=V at *
  generalize Aa f x=F at *
  generalize Aa (Aq f) x=F' at *
  generalize Aa g x=G at *
  generalize Aa (Aq g) x=G' at *
  generalize Aa k x=K at *
  generalize Aa (Aq k) x=K' at *
  rw[e1];have e4:(U*F+V*F')*c=U*(c*F)+V*(c*F'):=by grind
  rw[e4,e2,e3];grind
theorem iB{k:List Int}(hk:Y k ≠ [])(h:DY [1] k (Aq k)):∃ m n:Int,m ≠ 0/\n ≠ 0/\∀ x,m*Aa (Ab k) x=n*Aa k x:=by
 obtain⟨la,a0,_,_,_,m,hm,n,hn,hpa⟩:=Oh hk;have hG:DY [1] (y (prim k)) (Aq (y (prim k))):=DY.scaled (m:=m) (n:=n) (k:=m) (l:=n) hm hn hm hn (fun x=>(hpa x).symm) (fun x=>(Re hpa x).symm) h;have hl:=(FT (y (prim k)) (Aq (y (prim k)))).length hG (by rw[show Y (BE (y (prim k)) (Aq (y (prim k))))=_ from Ep _ _];exact H6 (CU la a0));rw[show Y (BE (y (prim k)) (Aq (y (prim k))))=_ from Ep _ _] at hl;have hl1:(Y [1]).length=1:=rfl;have e:Ab k=y (prim k):=by
  unfold Ab;rw[if_pos (Nq (by omega))]
 exact⟨m,n,hm,hn,fun x=>by rw[e];exact (hpa x).symm⟩
theorem Ave{f g k:List Int}{c:Int}(hc:c ≠ 0)(h:∀ x,c*Aa f x=Aa g x*Aa k x)(hf:Y f ≠ []):Y k ≠ []:=by
 intro h1;apply hf;have e:Y (Av c f)=Y []:=EZ fun x=>by rw[Ap,h x,Dg h1,AC];rfl
 have h2:=EE hc f;rw[e] at h2;exact A1 h2.symm
structure Cof (p q k:List Int):Prop where
 nz:Y k ≠ []
 gz:Y (BE (Ab p) q) ≠ []
 mul:∃ c d:Int,c ≠ 0/\d ≠ 0/\∀ x,c*Aa (Ab p) x=d*(Aa (Ab (BE (Ab p) q)) x*Aa (Ab k) x)
 one:DY [1] (Ab (BE (Ab p) q)) (Ab k)
 two:DY [1] (Ab k) (Ab q)
 dv:Dv (Ab k) (Ab p)
theorem S7{p q:List Int}(hp:Y p ≠ [])(hq:Y q ≠ []):∃ k,Cof p q k:=by
 obtain⟨lf,_,_,f0,_⟩:=Cj hp;have hf0:=CU lf f0;have hF:=Aeh hp;have hG:=FT (Ab p) q;have hg0:Y (BE (Ab p) q) ≠ []:=by rw[show Y (BE (Ab p) q)=_ from Ep _ _];exact H6 hf0
 generalize hgg:BE (Ab p) q=G at *
 obtain⟨⟨c,k,hc,hk⟩,_,c2,u,v,hc2,e2⟩:=hG;obtain⟨g1,g2,g3⟩:=Avd hc hk hF;have hk0:=Ave hc hk hf0;obtain⟨m1,n1,hm1,hn1,f1⟩:=iB hg0 g2;obtain⟨m2,n2,hm2,hn2,f2⟩:=iB hk0 g3;obtain⟨_,_,_,_,⟨c5,j,hc5,e5⟩,_⟩:=Cj hq;refine⟨k,⟨hk0,by rw[hgg];exact hg0,⟨n1*n2*c,m1*m2,AG (AG hn1 hn2) hc,AG hm1 hm2,fun x => ?_⟩,?_,?_,?_⟩⟩
 ·rw[hgg];have a1:=f1 x;have a2:=f2 x;have a3:=hk x;generalize Aa (Ab p) x=F at *
  generalize Aa (Ab G) x=A at *
  generalize Aa (Ab k) x=B at *
  generalize Aa G x=A' at *
  generalize Aa k x=B' at *
  have b1:m1*m2*(A*B)=(m1*A)*(m2*B):=by grind
  have b2:n1*n2*c*F=n1*n2*(c*F):=by grind
  rw[b1,a1,a2,b2,a3];grind
 ·rw[hgg];exact DY.scaled hm1 hn1 hm2 hn2 f1 f2 g1
 ·obtain⟨_,_,c3,u',v',hc3,e3⟩:=g1;have hkq:DY [1] k (Ab q):=by
   refine⟨FG _,FG _,c5*(c*c2*c3),Av c5 (Dl (Bo (Bo u' u) G) (Av (c*c2) v')),Av c (Bo (Bo u' v) j),AG hc5 (AG (AG hc hc2) hc3),fun x => ?_⟩;have a1:=hk x;have a2:=e2 x;have a3:=e3 x;have a5:=e5 x;simp only[Ap,BJ,AP];have o:Aa [1] x=1:=by simp[Aa]
   rw[o,CN] at a3 |-;generalize Aa (Ab p) x=F at *
   generalize Aa (Ab q) x=Q at *
   generalize Aa G x=A at *
   generalize Aa k x=B at *
   generalize Aa q x=Z at *
   generalize Aa u x=U at *
   generalize Aa v x=V at *
   generalize Aa u' x=U' at *
   generalize Aa v' x=V' at *
   generalize Aa j x=J at *
   have b1:c5*(c*c2*c3)=c5*(U'*(c*(c2*A))+c*c2*(V'*B)):=by rw[a3];grind
   have b2:c*(U*F+V*Z)=U*(c*F)+c*(V*Z):=by grind
   have b3:c5*(U'*(U*(A*B)+c*(V*Z))+c*c2*(V'*B))=c5*(U'*U*A+c*c2*V')*B+c*(U'*V)*(c5*Z):=by grind
   rw[b1,a2,b2,a1,b3,a5];grind
  exact DY.scaled hm2 hn2 (by decide:(1:Int) ≠ 0) (by decide:(1:Int) ≠ 0) f2 (fun _=>rfl) hkq
 ·refine⟨n2*c,Av m2 G,AG hn2 hc,fun x => ?_⟩;have a2:=f2 x;have a3:=hk x;rw[Ap];generalize Aa (Ab p) x=F at *
  generalize Aa (Ab k) x=B at *
  generalize Aa G x=A' at *
  generalize Aa k x=B' at *
  have b1:B*(m2*A')=(m2*B)*A':=by grind
  have b2:n2*c*F=n2*(c*F):=by grind
  rw[b1,a2,b2,a3];grind
theorem TA{p g:List Int}(hp:Y p ≠ [])(hg:Y g ≠ [])(hl:p.length<=7){P:Nat}(hP:∀ i,(p.getD i 0).natAbs<=P)(hD:Dv (Ab g) p):(∀ i,((Ab g).getD i 0).natAbs<=P*8^9*17^6)/\(Ab g).length<=p.length:=by
 obtain⟨lf,cf,_,f0,_⟩:=Cj hg;have h1:=(hD.length hp).1;rw[lf] at h1;have h2:=Bf p;obtain⟨c,k,hc,hk⟩:=hD;obtain⟨k',hk'⟩:=Ld hc cf hk;exact⟨ZB hp (by omega) (by omega) hP hk',by omega⟩
def W2:Nat:=2^100*8^9*17^6
theorem Avf:∀ e,e=1610->∀ m,m<=5->∀ n,n<=5->160*S6 m n W2 40<2^e:=by
 intro e he m hm n hn;have key:((Ao 6).all fun m=>(Ao 6).all fun n=>Fa (160*S6 m n W2 40) (2^e))=true:=by
  subst he;kernel_rfl
 rw[BQ] at key;have k1:=key m (Lo.2 (by omega));rw[BQ] at k1;have k2:=k1 n (Lo.2 (by omega));simpa using k2
theorem Ow{r:List Int}{x y Q:Int}(h:1<=wq r x Q-wq r y Q):2<=(Ab r).length:=by
 apply Az;intro g;have e:∀ z,wq r z Q<=0:=by
  intro z;unfold wq Cv;by_cases h0:Ab r=[]
  ·rw[if_pos h0];exact Dp _
  ·rw[if_neg h0];have hz:prim (Aq (Ab r))=[]:=by
    rw[Do];intro i;rw[C_,Bs (by omega),CJ]
   have hl1:(Ab r).length=1:=by have:=Aj.2 h0;omega
   have e:GW (Ab r).length (Ab r) (prim (Aq (Ab r)))=[]:=by rw[hl1,hz];rfl
   rw[e];exact gS (Cz (Hh (Ab r) z Q)) []
 have e2:0<=wq r y Q:=MV _ _;have:=e x;omega
theorem A1u{p q:List Int}(hp:Y p ≠ [])(hq:Y q ≠ []){x y Q:Int}(hQ:0<Q)(hxy:x<=y):wq (BE (Ab p) q) x Q-wq (BE (Ab p) q) y Q<=wq p x Q-wq p y Q:=by
 obtain⟨s,hs⟩:=S7 hp hq;obtain⟨c,d,hc,hd,hcd⟩:=hs.mul;have hm:=S5 hc hd hp hs.gz hs.nz hcd hs.one hQ hxy;have:wq s y Q<=wq s x Q:=Jj s hQ hxy;omega
theorem Aei{p:List Int}(hp:Y p ≠ []){x y Q:Int}(hQ:0<Q)(hxy:x<=y):wq (BE (Ab p) p) x Q-wq (BE (Ab p) p) y Q=wq p x Q-wq p y Q:=by
 obtain⟨s,hs⟩:=S7 hp hp;obtain⟨c,d,hc,hd,hcd⟩:=hs.mul;have hm:=S5 hc hd hp hs.gz hs.nz hcd hs.one hQ hxy;have h1:wq s y Q<=wq s x Q:=Jj s hQ hxy;have h2:¬ 1<=wq s x Q-wq s y Q:=fun g=>by
  have l2:=Ow g;obtain⟨ls,_⟩:=Cj hs.nz;have hD:=hs.two.dv (Dv.refl (Ab s)) hs.dv;have h3:=(hD.length (t:=[1]) (by decide)).1;rw[ls] at h3;have:(Y [1]).length=1:=rfl;omega
 omega
structure Shortp (p:List Int):Prop where
 ne:Y p ≠ []
 len:p.length<=6
 co:∀ i,(p.getD i 0).natAbs<=2^100
theorem Aej{p q:List Int}(hp:Shortp p)(hq:Y q ≠ [])(hb:∀ i,((Ab q).getD i 0).natAbs<=W2)(hl:(Ab q).length<=6){x y Q:Int}(hQ:0<Q)(hxy:x<=y)(hx : -(40*Q)<=x)(hy:y<=40*Q){k:Nat}(hk:1610<=k)(hw:(y-x)*2^k<=160*Q)(h1:1<=wq p x Q-wq p y Q)(h2:1<=wq q x Q-wq q y Q) :
  1<=wq (BE (Ab p) q) x Q-wq (BE (Ab p) q) y Q:=by
 obtain⟨s,hs⟩:=S7 hp.ne hq;obtain⟨c,d,hc,hd,hcd⟩:=hs.mul;have hm:=S5 hc hd hp.ne hs.gz hs.nz hcd hs.one hQ hxy;apply Az;intro hn;have hs1:1<=wq s x Q-wq s y Q:=by omega
 obtain⟨_,_,_,_,dp,_⟩:=Cj hp.ne;obtain⟨b1,l1⟩:=TA hp.ne hs.nz (by have:=hp.len;omega) hp.co (hs.dv.trans dp);have l3:=Ow hs1;have l4:=Ow h2;have hpl:=hp.len;have ap:=hO (X:=40) hs.nz hq hs.two (m:=(Ab s).length-1) (n:=(Ab q).length-1) (A:=W2) (by omega) (by omega) (by omega) b1 hb (by decide) hQ hxy hx hy hs1 h2;obtain⟨e,he,num⟩:∃ e,e<=k/\160*S6 ((Ab s).length-1) ((Ab q).length-1) W2 40<2^e:=⟨1610,hk,Avf _ rfl _ (by omega) _ (by omega)⟩;generalize S6 ((Ab s).length-1) ((Ab q).length-1) W2 40=M at *
 have hK:(0:Int)<2^k:=EF (by decide);have num2:(160:Int)*(M:Nat)<2^k:=by
  have h3:160*M<2^k:=EL num (B4 (by decide) he);have h4:=A4w.2 h3;rw[CZ,CT] at h4;exact h4
 have e1:=Ae ap (A0 hK);have e2:=Ae hw (show (0:Int)<=(M:Nat) by omega);have e3:=Hl num2 hQ;have e4:(y-x)*(M:Nat)*2^k=(y-x)*2^k*(M:Nat):=D2 ..;have e5:Q*(160*(M:Nat))=160*Q*(M:Nat):=by grind
 omega
theorem Shortp.small{q:List Int}(hq:Shortp q):(∀ i,((Ab q).getD i 0).natAbs<=W2)/\(Ab q).length<=6:=by
 obtain⟨_,_,_,_,dq,_⟩:=Cj hq.ne;obtain⟨b2,l2⟩:=TA hq.ne hq.ne (by have:=hq.len;omega) hq.co dq;exact⟨b2,by have:=hq.len;omega⟩
theorem meet{p q:List Int}(hp:Shortp p)(hq:Shortp q){x y Q:Int}(hQ:0<Q)(hxy:x<=y)(hx : -(40*Q)<=x)(hy:y<=40*Q){k:Nat}(hk:1610<=k)(hw:(y-x)*2^k<=160*Q)(h1:1<=wq p x Q-wq p y Q)(h2:1<=wq q x Q-wq q y Q) :
  1<=wq (BE (Ab p) q) x Q-wq (BE (Ab p) q) y Q :=
 Aej hp hq.ne hq.small.1 hq.small.2 hQ hxy hx hy hk hw h1 h2
end Go.Ai
namespace Go.Proofs.YtajompaehjkgkaaGreat
open Go.Ai
set_option maxRecDepth 100000
open Bool renaming and_false->H9,not_eq_true->Aex
open Classical renaming byContradiction->Az
open Go.Ai.AV renaming agg->A6r,bool->A6m,fresh->A6p,int->A6l,sl->A6n,tup->A6t
open Go.IntKind renaming i64->R,u32->A5,wrap->D
open Int renaming le_of_eq->FW,le_of_lt->A0,le_refl->Dp,le_trans->Ee,lt_trichotomy->FD,mul_le_mul_of_nonneg_right->Ae,mul_neg_of_pos_of_neg->Ir,mul_pos->Ba,mul_zero->AC,one_mul->CO,pow_add->BC,toNat->A,toNat_natCast->F
open List renaming getD_eq_getElem?_getD->Z,getElem?_eq_getElem->Af,getElem?_map->C7,getElem_mem->Ds,length_map->N,length_pos_iff->Aj
open Nat renaming add_comm->Hn,le_refl->An,le_trans->Bp,mul_le_mul->Bu,mul_le_mul_left->z,pow_add->C8,pow_le_pow_right->B4,zero_le->Bv
theorem Qo(p:List Int)(y:Iv):y.d p=wq p (O y.r*2^y.b) (2^(y.a+y.b))-wq p (O y.t*2^y.a) (2^(y.a+y.b)):=by
 have e1:=FV p (O y.r) y.a y.b;have e2:=FV p (O y.t) y.b y.a;rw[Hn y.b y.a] at e2;show Vd p _ _-Vd p _ _=_;rw[<- e1,<- e2,Hv,Hv];rfl
theorem Fewp.short{p:List Int}(h:Fewp p)(hl:p.length<=6):Shortp p:=⟨h.ne,hl,h.co⟩
theorem Wd.range{k:Nat}{y:Iv}(h:Wd k y) : -(40*2^(y.a+y.b))<=O y.r*2^y.b/\O y.t*2^y.a<=40*2^(y.a+y.b):=by
 have e:(2:Int)^(y.a+y.b)=2^y.a*2^y.b:=BC ..;have h1:=Ae h.lo (A0 (BT y.b));have h2:=Ae h.hi (A0 (BT y.a));have e1 : -((40:Int)*2^y.a)*2^y.b = -(40*(2^y.a*2^y.b)):=by grind
 have e2:(40:Int)*2^y.b*2^y.a=40*(2^y.a*2^y.b):=by grind
 rw[e];omega
theorem Avg{p q:List Int}(hp:Shortp p)(hq:Shortp q){k:Nat}{y:Iv}(h:Wd k y)(hk:1610<=k)(h1:1<=y.d p)(h2:1<=y.d q):1<=y.d (BE (Ab p) q):=by
 rw[Qo] at *
 obtain⟨r1,r2⟩:=h.range;refine meet hp hq (BT _) (A0 h.lt) r1 r2 hk ?_ h1 h2;rw[h.w,BC];have:=Ba (BT y.a) (BT y.b);omega
theorem S8(p:List Int){y:Iv}(h:O y.r*2^y.b<O y.t*2^y.a):0<=y.d p:=by
 have:=L1 (p:=p) (A0 h);unfold Iv.d;omega
theorem One.d{p:List Int}{y:Iv}(h:One p y):y.d p=1:=h.v
theorem A6a(s:List Int){p:List Int}{y:Iv}(h:O y.r*2^y.b<O y.t*2^y.a):(stp p y).d s<=y.d s:=by
 obtain⟨b1,b2⟩:=MR h;have v1:=L1 (p:=s) (A0 b1);have v2:=L1 (p:=s) (A0 b2);have hne:Dd (O y.r) y.a (O y.t) y.b ≠ 0:=by rw[Jk.2 h];decide
 unfold stp;rw[if_neg hne];unfold Iv.d;split
 ·show Vd s (O y.r) y.a-Vd s (O (cn y.mn)) y.me<=_;rw[u];have:Vd s (O y.t) y.b<=Vd s y.mn y.me:=v2;omega
 ·show Vd s (O (cn y.mn)) y.me-Vd s (O y.t) y.b<=_;rw[u];have:Vd s y.mn y.me<=Vd s (O y.r) y.a:=v1;omega
theorem tB(s:List Int){p:List Int}{y:Iv}(h:One p y):∀ n,(stpN (Ab p) y n).d s<=y.d s
 | 0=>Dp _
 | n+1=>Ee (A6a s (h.halves n).lt) (tB s h n)
theorem A1v{p q:List Int}(hp:Y p ≠ [])(hq:Y q ≠ []){y:Iv}(h:One p y):0<=y.d (BE (Ab p) q)/\y.d (BE (Ab p) q)<=1:=by
 have h1:=A1u hp hq (BT (y.a+y.b)) (A0 (show O y.r*2^y.b<O y.t*2^y.a from h.lt));rw[<- Qo,<- Qo,h.d] at h1;exact⟨S8 _ h.lt,h1⟩
theorem qM{p q:List Int}(hp:Shortp p)(hq:Shortp q){y:Iv}{j:Nat}(h:One p y)(hw:Wd j y)(hG:y.d (BE (Ab p) q)<=0):∃ n,n<=1610/\(∀ i,i<n->(stpN (Ab p) y i).d q ≠ 0)/\(stpN (Ab p) y n).d q=0:=by
 have last:(stpN (Ab p) y 1610).d q=0:=by
  apply Az;intro g;have n0:=S8 q (h.halves 1610).lt;have:=Avg hp hq (hw.stpN (Ab p) 1610) (by omega) (by have:=(h.halves 1610).d;omega) (by omega);have:=tB (BE (Ab p) q) h 1610;omega
 rcases Je (fun n=>decide ((stpN (Ab p) y n).d q=0)) 1611 1611 0 rfl with g | ⟨n,_,h2,h3,h4⟩
 ·exact absurd last (of_decide_eq_false (g 1610 (by omega) (by omega)))
 ·exact⟨n,by omega,fun i hi=>of_decide_eq_false (h4 i (by omega) hi),of_decide_eq_true h3⟩
theorem W3(q:List Int):prim (Y q)=prim q:=Ka (CG q)
theorem iC{p q:List Int}(h:prim p=prim q):Ab p=Ab q:=by unfold Ab;rw [h]
theorem W4{p q:List Int}(h:prim p=prim q)(x:Int)(a:Nat):Vd p x a=Vd q x a:=by
 unfold Vd BD;rw[iC h]
theorem ZC{c n:Int}(hc:0<c):Cz (c*n)=Cz n:=by
 rcases FD n 0 with g | g | g
 ·rw[Ip.2 g,Ip.2 (Ir hc g)]
 ·rw[g,AC]
 ·rw[Io.2 g,Io.2 (Ba hc g)]
theorem Aek(q:List Int)(x:Int)(a:Nat):ES (prim q) x a=ES (Y q) x a:=by
 rw[Rr,Rr];by_cases h0:Y q=[]
 ·have:prim q=[]:=Do.2 (CL.1 h0);rw[h0,this]
 ·have hc:=HS h0;have h:=gX (f:=Y q) (g:=prim q) (c:=1) (d:=(AO q:Nat)) (fun z=>by
   rw[CO,Dy,<- Ap,Jh,Dy]) (BB q).symm x (2^a)
  rw[CO] at h;rw[h,ZC (by omega)]
theorem W5{p:List Int}(hp:Shortp p)(q:List Int):Kb 5 (BE (Ab p) q)/\(BE (Ab p) q).length<=6:=by
 obtain⟨lf,_,_,f0,dp,_⟩:=Cj hp.ne;have hf0:=CU lf f0;have hD:=(FT (Ab p) q).1.trans dp;have h1:=(hD.length hp.ne).1;rw[show Y (BE (Ab p) q)=_ from Ep _ _] at h1;have h2:=Bf p;have h3:=hp.len;obtain⟨c,k,hc,hk⟩:=hD;obtain⟨k',hk'⟩:=Ld hc (We hf0) hk;have hb:=ZB hp.ne (by omega) (by omega) hp.co hk';refine⟨fun i=>Gd (k:=152) (Bp (hb i) ?_) (by decide),by omega⟩;have e1:(8:Nat)^9<=2^27:=by decide
 have e2:(17:Nat)^6<=2^25:=by decide
 refine Bp (Bu (z _ e1) e2) ?_;rw[<- C8,<- C8];exact B4 (by decide) (by decide)
theorem qN{rs:List Rn}(hg:∀ r∈rs,AN 5 r)(hn:rs.length<=9){r t:Rn}(hr:AN 100 r)(ht:AN 100 t){a b:Nat}(ha:a<=4096)(hb:b<=4096) :
  H I 63 [sL pc rs,A6 r (a:Nat),A6 t (b:Nat)] (A6l R (Rl (M rs) (O r) a (O t) b)):=by
 have hch:=eO hg hn;have hnice:=Im hg hn;have hlen:=GT hg hn;have x1:=Yp hnice hr a (by omega) (by omega);have x2:=Yp hnice ht b (by omega) (by omega);have k:=A0w rs _ r t (a:Nat) (b:Nat) _ _ hch x1 x2;rw[Ol (by omega)] at k;exact k
theorem W6{qs:List Rn}(hg:∀ r∈qs,AN 5 r):Kb 5 (M qs)/\Kb 5 (Y (M qs))/\Kb 5 (prim (M qs)):=by
 have k:Kb 5 (M qs):=HJ (Cs hg);exact⟨k,fun i=>by rw[CG];exact k i,fun i=>VR k i⟩
theorem W7{qs:List Rn}(hn:qs.length<=6):(Y (M qs)).length<=6/\(prim (M qs)).length<=6:=by
 have h:=Bf (M qs);rw[s] at h;rw[BB];omega
section
variable {p:List Int} (hp:Fewp p) {qs:List Rn} (hg:∀ r∈qs,AN 5 r) (hn:qs.length<=6)
include hp hg hn
theorem qO:MK 135 [A6n ((Ab p).map cn).length (pc ((Ab p).map cn)),A6n ((Y (M qs)).map cn).length (pc ((Y (M qs)).map cn))] (BE (Ab p) (M qs)):=by
 have h:=Rc (K:=5) (c:=9) hp.good (AI (W6 hg).2.1) hp.l9 (by rw[N];have:=(W7 hn).1;omega) (by decide) (by decide);rw[v,v,W3] at h;exact h
theorem qP:MK 70 [A6n ((Ab p).map cn).length (pc ((Ab p).map cn)),A6n ((prim (M qs)).map cn).length (pc ((prim (M qs)).map cn))] (BE (Ab p) (M qs)):=by
 have h:=Rg (K:=5) (c:=9) hp.good (AI (W6 hg).2.2) hp.l9 (by rw[N];have:=(W7 hn).2;omega) (by decide) (by decide);rw[v,v,BI] at h;exact h
end
theorem qQ{p:List Int}(h:p.length<2)(x z:Int)(a b:Nat):ES p x a=ES p z b:=by
 match p,h with
 | [],_=>rfl
 | [c],_=>unfold ES;simp[hv]
theorem OW{p:List Int}(hk:Kb 5 p)(hl:p.length<=9){y:Iv}{C m:Nat}(hx:IvOk C m y)(hm:m<=4096):H I 136 [A6n (p.map cn).length (pc (p.map cn)),A6 y.r (y.a:Nat),A6 y.t (y.b:Nat)] (A6l R (y.d p)) /\
  H I 63 [A6n (p.map cn).length (pc (p.map cn)),A6 y.r (y.a:Nat),A6 y.t (y.b:Nat)] (A6l R (y.d p)):=by
 have h1:=pN (AI hk) (by rw[N];exact hl) hx.gr hx.gt (a:=y.a) (b:=y.b) (by have:=hx.a;omega) (by have:=hx.b;omega);have h2:=qN (AI hk) (by rw[N];exact hl) hx.gr hx.gt (a:=y.a) (b:=y.b) (by have:=hx.a;omega) (by have:=hx.b;omega);rw[v] at h1 h2;exact⟨h1,h2⟩
theorem TB{f g:List Int}(hk:Kb 5 g)(hl:g.length<=9){y:Iv}{C m:Nat}(hx:IvOk C m y)(hm:m<=4096)(hlt:Dd (O y.r) y.a (O y.t) y.b = -1):H I 69 [BW (f.map cn) y.r (y.a:Nat) y.t (y.b:Nat),A6n (g.map cn).length (pc (g.map cn))] (A6m (!decide (g.length<2)&&(y.d g==1))):=by
 by_cases c:g.length<2
 ·rw[decide_eq_true c];exact Adp _ y.r y.t _ _ _ (by rw[decide_eq_true_eq,N];omega)
 ·rw[decide_eq_false c];have h1:=F3 (hx.gr.mono (show 100<=200 by omega)) (hx.gt.mono (show 100<=200 by omega)) (a:=y.a) (b:=y.b) (by have:=hx.a;omega) (by have:=hx.b;omega);rw[hlt] at h1;exact Adq _ y.r y.t _ _ _ (-1) _ (by rw[decide_eq_false_iff_not,N];omega) rfl h1 (OW hk hl hx hm).2
theorem qR{p:List Int}(hp:Fewp p){qs:List Rn}(hg:∀ r∈qs,AN 5 r)(hn:qs.length<=6){y:Iv}(hx:IvOk 6 895 y){n:Nat}(hn1:n<=1610)(hs:∀ i,i<n->(stpN (Ab p) y i).d (M qs) ≠ 0)(h0:(stpN (Ab p) y n).d (M qs)=0):W I (.loop QB) (K2 ((Ab p).map cn) y.r (y.a:Nat) y.t (y.b:Nat) ((Y (M qs)).map cn) (Dm (BD (Y (M qs))))) (.exit 0)
  (K2 ((Ab p).map cn) (stpN (Ab p) y n).r ((stpN (Ab p) y n).a:Nat) (stpN (Ab p) y n).t ((stpN (Ab p) y n).b:Nat) ((Y (M qs)).map cn) (Dm (BD (Y (M qs))))):=by
 have hgt:=AI (W6 hg).2.1;have hnt:((Y (M qs)).map cn).length<=9:=by rw[N];have:=(W7 hn).1;omega
 have hnice:=Im hgt hnt;have hlen:=GT hgt hnt;rw[v] at hnice hlen;have ch:∀ {r:Rn} {a:Nat},AN 100 r->a<=4096->H I 68 [A6n (Dm (BD (Y (M qs)))).length (pp (Dm (BD (Y (M qs))))),A6 r (a:Nat)] (A6l R (Vd (M qs) (O r) a)):=fun {r a} hr ha=>by
  have k:=Fv hnice hr a ha (by omega);rw[<- W4 (W3 (M qs))];exact k
 have ok:=fun i (hi:i<=n)=>Rm (p:=Ab p) hx i (by omega);refine Gc (prog:=I) (c:=QB) (ex := .exit 0) (fun i=>K2 ((Ab p).map cn) (stpN (Ab p) y i).r ((stpN (Ab p) y i).a:Nat) (stpN (Ab p) y i).t ((stpN (Ab p) y i).b:Nat) ((Y (M qs)).map cn) (Dm (BD (Y (M qs))))) n (by nofun) ?_ 0 (Bv _) ?_
 ·have o:=ok n (An _);refine A1h _ _ _ _ _ _ _ _ _ ?_ (ch o.gr (by have:=o.a;omega)) (ch o.gt (by have:=o.b;omega));have:Vd (M qs) (O (stpN (Ab p) y n).r) (stpN (Ab p) y n).a=Vd (M qs) (O (stpN (Ab p) y n).t) (stpN (Ab p) y n).b:=by unfold Iv.d at h0;omega
  rw[this];simp
 ·intro t _ ht;have o:=ok t (by omega);refine A1g _ _ _ _ _ _ _ _ _ _ _ _ _ _ ?_ (ch o.gr (by have:=o.a;omega)) (ch o.gt (by have:=o.b;omega)) (Adi hp.fine o (by omega));have:=hs t ht;unfold Iv.d at this;rw[bne_iff_ne];omega
theorem Avh{p:List Int}(hp:Fewp p){qs:List Rn}(hg:∀ r∈qs,AN 5 r)(hn:qs.length<=6){y:Iv}(h:One p y)(hx:IvOk 6 895 y){n:Nat}(hn1:n<=1610)(hs:∀ i,i<n->(stpN (Ab p) y i).d (M qs) ≠ 0)(h0:(stpN (Ab p) y n).d (M qs)=0)(hl2:1<(Y (M qs)).length):W I (.loop SO) (LX ((Ab p).map cn) y.r (y.a:Nat) y.t (y.b:Nat) ((prim (M qs)).map cn)) (.exit 0)
  (LX ((Ab p).map cn) (stpN (Ab p) y n).r ((stpN (Ab p) y n).a:Nat) (stpN (Ab p) y n).t ((stpN (Ab p) y n).b:Nat) ((prim (M qs)).map cn)):=by
 have lf:=(Cj hp.ne).1;have hkb:=(W6 hg).2.2;have hnt:(prim (M qs)).length<=9:=by have:=(W7 hn).2;omega
 have ok:=fun i (hi:i<=n)=>Rm (p:=Ab p) hx i (by omega);have ed:∀ z:Iv,z.d (prim (M qs))=z.d (M qs):=fun z=>by unfold Iv.d;rw[W4 (BI (M qs)),W4 (BI (M qs))]
 have hl3:decide ((((prim (M qs)).map cn).length:Nat)>(1:Int))=true:=by rw[decide_eq_true_eq,N,BB];omega
 have cm:∀ i,i<=n->H I 33 [A6 (stpN (Ab p) y i).r ((stpN (Ab p) y i).a:Nat),A6 (stpN (Ab p) y i).t ((stpN (Ab p) y i).b:Nat)] (A6l R (-1)):=fun i hi=>by
  have o:=ok i hi;have k:=F3 (o.gr.mono (show 100<=200 by omega)) (o.gt.mono (show 100<=200 by omega)) (a:=(stpN (Ab p) y i).a) (b:=(stpN (Ab p) y i).b) (by have:=o.a;omega) (by have:=o.b;omega);rw[Jk.2 (h.halves i).lt] at k;exact k
 refine Gc (prog:=I) (c:=SO) (ex := .exit 0) (fun i=>LX ((Ab p).map cn) (stpN (Ab p) y i).r ((stpN (Ab p) y i).a:Nat) (stpN (Ab p) y i).t ((stpN (Ab p) y i).b:Nat) ((prim (M qs)).map cn)) n (by nofun) ?_ 0 (Bv _) ?_
 ·have o:=ok n (An _);have c:=(OW hkb hnt o (by omega)).2;rw[ed,h0] at c;exact A1j _ _ _ _ _ _ (-1) 0 rfl hl3 rfl (cm n (An _)) c
 ·intro t _ ht;have o:=ok t (by omega);have c:=(OW hkb hnt o (by omega)).2;rw[ed] at c;have n0:=S8 (M qs) (h.halves t).lt;have:=hs t ht;exact A1i _ _ _ _ _ _ (-1) _ _ _ _ _ _ rfl hl3 (by rw[decide_eq_true_eq];omega) (cm t (by omega)) c (pI hp.fine o (by omega) lf)
section
variable {p:List Int} (hp:Fewp p) (hl:p.length<=6) {qs:List Rn} (hg:∀ r∈qs,AN 5 r) (hn:qs.length<=6) (hq:Y (M qs) ≠ []->Shortp (M qs)) {y:Iv} (h:One p y) (hx:IvOk 6 895 y) {j:Nat} (hw:Wd j y)
include hp hl hg hn hq h hx hw
theorem Y6:∃ z,H I 85 [BW ((Ab p).map cn) y.r (y.a:Nat) y.t (y.b:Nat),sL pc qs] (A6l R z)/\H I 35 [BW ((Ab p).map cn) y.r (y.a:Nat) y.t (y.b:Nat),sL pc qs] (A6l R z)/\(M qs=p->z=0):=by
 have ltq:=Jk.2 h.lt;obtain⟨kb1,kb2,kb3⟩:=W6 hg;obtain⟨ln1,ln2⟩:=W7 hn;have tr:=Ec (HI (rs:=qs) (fun r hr=>(hg r hr).mono (by omega)) (by omega));have pr:=Ec (GQ (K:=5) hg (by decide) (by omega));have ex:=Qh (p:=Ab p) hx.gr hx.gt (a:=y.a) (b:=y.b) (by have:=hx.a;omega) (by have:=hx.b;omega);rw[ltq,show ((-1:Int)==0)=false by decide] at ex;have ft:Om (Y (M qs)):=⟨kb2.mono (by decide),by omega⟩;have l1:((Y (M qs)).map cn).length=(Y (M qs)).length:=N ..;have l2:((prim (M qs)).map cn).length=(Y (M qs)).length:=by rw[N,BB]
 have pl:2<=(Ab p).length/\(Ab p).length<=(Y p).length:=by
  obtain⟨lf,_,_,_,dp,_⟩:=Cj hp.ne;have h1:=(dp.length hp.ne).1;rw[lf] at h1;have h2:=h.d;rw[Qo] at h2;exact⟨Ow (FW h2.symm),h1⟩
 have vf:∀ {z:Iv} {m:Nat},IvOk 6 m z->m<=4096->H I 80 [A6n ((prim (M qs)).map cn).length (pc ((prim (M qs)).map cn)),A6r [A6m z.t.1,A6n z.t.2.length (lm z.t.2)],A6l R (z.b:Nat)] (o (hv (prim (M qs)) (O z.t) (2^z.b)))/\H I 79 [o (hv (prim (M qs)) (O z.t) (2^z.b))] (A6l R (ES (Y (M qs)) (O z.t) z.b)):=fun {z m} hz hm=>by
  have k:=On (rs:=(prim (M qs)).map cn) (fun r hr=>(AI kb3 r hr).mono (by omega)) (by rw[l2];omega) hz.gt (a:=z.b) (by have:=hz.b;omega);rw[v,show Y (prim (M qs))=_ from B_ _,Aek] at k;exact k
 by_cases c0:(Y (M qs)).length<2
 ·have sa:=JR ft hx.gr (a:=y.a) (by have:=hx.a;omega);refine⟨_,fL _ y.r y.t _ _ qs _ false _ rfl (by rw[decide_eq_true_eq,l1];omega) tr ex sa,?_,fun e => ?_⟩
  ·by_cases c1:Y (M qs)=[]
   ·rw[c1] at l2 |-;exact fS _ y.r y.t _ _ qs _ (by rw[l2];rfl) pr
   ·have c2:=Aj.2 c1;have n0:((((prim (M qs)).map cn).length:Nat)==(0:Int))=false:=by rw[beq_eq_false_iff_ne,l2];omega
    have gl:(BE (Ab p) (M qs)).length<2:=by
     have h1:=((FT (Ab p) (M qs)).2.1.length c1).1;rw[show Y (BE (Ab p) (M qs))=_ from Ep _ _] at h1;omega
    obtain⟨gk,_⟩:=W5 (hp.short hl) (M qs);have wi:=TB (f:=Ab p) gk (by omega) hx (by decide) ltq;rw[decide_eq_true gl] at wi;have cm:=F3 (hx.gr.mono (show 100<=200 by omega)) (hx.gt.mono (show 100<=200 by omega)) (a:=y.a) (b:=y.b) (by have:=hx.a;omega) (by have:=hx.b;omega);rw[ltq] at cm;have lp:=Am (A1k ((Ab p).map cn) y.r (y.a:Nat) y.t (y.b:Nat) ((prim (M qs)).map cn) (-1) rfl (by rw[decide_eq_false_iff_not,l2];omega) cm) (by nofun);obtain⟨v1,v2⟩:=vf hx (by decide);rw[qQ c0 (O y.t) (O y.r) y.b y.a] at v2;rcases qP hp hg hn with g | g
    ·exact Ty _ y.r y.t _ _ qs _ _ false _ _ _ _ _ _ _ n0 rfl pr g wi lp v1 v2
    ·exact Tx _ y.r y.t _ _ qs _ _ false _ _ _ _ _ _ _ n0 rfl pr g wi lp v1 v2
  ·rw[e] at c0;omega
 ·have q0:Y (M qs) ≠ []:=by intro e;rw[e] at c0;exact c0 (by decide)
  have hsq:=hq q0;obtain⟨g0,g1⟩:=A1v hp.ne q0 h;obtain⟨gk,gl⟩:=W5 (hp.short hl) (M qs);have n0:((((prim (M qs)).map cn).length:Nat)==(0:Int))=false:=by rw[beq_eq_false_iff_ne,l2];omega
  have c2:decide ((((Y (M qs)).map cn).length:Nat)<(2:Int))=false:=by rw[decide_eq_false_iff_not,l1];omega
  have wi:=TB (f:=Ab p) gk (by omega) hx (by decide) ltq;have cn1:=(OW gk (by omega) hx (by decide)).1;have lg:((BE (Ab p) (M qs)).map cn).length=(BE (Ab p) (M qs)).length:=N ..;by_cases cG:y.d (BE (Ab p) (M qs))<=0
  ·obtain⟨n,n1,n2,n3⟩:=qM (hp.short hl) hsq h hw cG;have ok:=Rm (p:=Ab p) hx n (by omega);have sa:=JR ft ok.gt (a:=(stpN (Ab p) y n).b) (by have:=ok.b;omega);have hch:=Lh (AI kb2) (by rw[l1];omega);rw[v] at hch;have lp:=qR hp hg hn hx n1 n2 n3;have la:=Avh hp hg hn h hx n1 n2 n3 (by omega);obtain⟨v1,v2⟩:=vf ok (by omega);rw[show (y.d (BE (Ab p) (M qs))==1)=false by rw[beq_eq_false_iff_ne];omega,H9] at wi;refine⟨ES (Y (M qs)) (O (stpN (Ab p) y n).t) (stpN (Ab p) y n).b,?_,?_,fun e => ?_⟩
   ·by_cases c3:1<(BE (Ab p) (M qs)).length
    ·rcases qO hp hg hn with g | g
     ·exact fQ _ y.r y.t _ _ qs _ _ _ false _ _ _ _ _ _ _ rfl c2 (by rw[decide_eq_true_eq,lg];omega) (by rw[decide_eq_false_iff_not];omega) tr ex g cn1 hch lp sa
     ·exact fN _ y.r y.t _ _ qs _ _ _ false _ _ _ _ _ _ _ rfl c2 (by rw[decide_eq_true_eq,lg];omega) (by rw[decide_eq_false_iff_not];omega) tr ex g cn1 hch lp sa
    ·rcases qO hp hg hn with g | g
     ·exact fR _ y.r y.t _ _ qs _ _ _ false _ _ _ _ _ _ rfl c2 (by rw[decide_eq_false_iff_not,lg];omega) tr ex g hch lp sa
     ·exact fO _ y.r y.t _ _ qs _ _ _ false _ _ _ _ _ _ rfl c2 (by rw[decide_eq_false_iff_not,lg];omega) tr ex g hch lp sa
   ·rcases qP hp hg hn with g | g
    ·exact Ty _ y.r y.t _ _ qs _ _ false _ _ _ _ _ _ _ n0 rfl pr g wi la v1 v2
    ·exact Tx _ y.r y.t _ _ qs _ _ false _ _ _ _ _ _ _ n0 rfl pr g wi la v1 v2
   ·rw[e,Qo,Aei hp.ne (BT _) (A0 h.lt),<- Qo,h.d] at cG;omega
  ·have e1:y.d (BE (Ab p) (M qs))=1:=by omega
   have c3:2<=(BE (Ab p) (M qs)).length:=by
    have h2:=e1;rw[Qo] at h2;have h3:=Ow (FW h2.symm);have gn:Y (BE (Ab p) (M qs)) ≠ []:=by
     obtain⟨lf,_,_,f0,_⟩:=Cj hp.ne;rw[show Y (BE (Ab p) (M qs))=_ from Ep _ _];exact H6 (CU lf f0)
    obtain⟨lG,_,_,_,dG,_⟩:=Cj gn;have h4:=(dG.length gn).1;rw[lG,show Y (BE (Ab p) (M qs))=_ from Ep _ _] at h4;omega
   rw[e1] at cn1 wi;rw[show (!decide ((BE (Ab p) (M qs)).length<2)&&((1:Int)==1))=true by rw[decide_eq_false (by omega)];rfl] at wi;refine⟨0,?_,?_,fun _=>rfl⟩
   ·rcases qO hp hg hn with g | g
    ·exact fP _ y.r y.t _ _ qs _ _ false _ rfl c2 (by rw[decide_eq_true_eq,lg];omega) (by decide) tr ex g cn1
    ·exact fM _ y.r y.t _ _ qs _ _ false _ rfl c2 (by rw[decide_eq_true_eq,lg];omega) (by decide) tr ex g cn1
   ·rcases qP hp hg hn with g | g
    ·exact fU _ y.r y.t _ _ qs _ _ true n0 rfl pr g wi
    ·exact fT _ y.r y.t _ _ qs _ _ true n0 rfl pr g wi
end
theorem Y7{p:List Int}(hp:Fewp p){qs:List Rn}(hg:∀ r∈qs,AN 5 r)(hn:qs.length<=6){y:Iv}(h:One p y)(hx:IvOk 6 895 y){z:Int}(hz:H I 85 [BW ((Ab p).map cn) y.r (y.a:Nat) y.t (y.b:Nat),sL pc qs] (A6l R z)):H I 34 [BW ((Ab p).map cn) y.r (y.a:Nat) y.t (y.b:Nat),sL pc qs] (A6t [A6l R z,A6l R 0]):=by
 have v:=pG hp.good hp.l9 hx.gr hx.gt (y.a:Nat) (y.b:Nat);rw[qF hp h hx] at v;have sm:=Li hg (by decide) (by omega);rw[MS (K:=5) (HJ (Cs hg)) (by decide) (by rw[s];omega)] at sm;exact Ado _ y.r y.t _ _ qs _ z true true rfl rfl v sm (Aee hp) hz
theorem iD{rs:List Rn}(h5:∀ r∈rs,AN 5 r)(h9:rs.length<=9)(hp:Fewp (M rs)):(P0 (M rs)).length<=1000:=by
 have hd:=hp.deep 895 0 L_ rfl OU;have hlen:=GT h5 h9;have hL:=Rw (p:=M rs) 895 0 L_ OU hd;have b1:=Ov hlen (O L_.r) L_.a;have b2:=Ov hlen (O L_.t) L_.b;have hdd:L_.d (M rs)<=10:=by unfold Iv.d;omega
 unfold P0 JG;split
 ·simp
 ·omega
theorem W8(haw:H I 12 [] (A6m true)){rs qs:List Rn}(hg:∀ r∈rs,AN 35184372088832 r)(hgq:∀ r∈qs,AN 35184372088832 r) :
  H I 7 [sL pc rs,sL pc qs] (A6m true):=by
 by_cases l1:rs.length>6
 ·exact Aub rs qs (by rw[decide_eq_true_eq];omega) haw
 have d1:decide ((rs.length:Int)>6)=false:=by rw[decide_eq_false_iff_not];omega
 by_cases l2:qs.length>6
 ·exact Auc rs qs d1 (by rw[decide_eq_true_eq];omega) haw
 have d2:decide ((qs.length:Int)>6)=false:=by rw[decide_eq_false_iff_not];omega
 have hf1:=fV hg;have hf2:=fV hgq;by_cases c0:LY rs=true
 case neg =>
  rw[Aex] at c0;rw[c0] at hf1;exact Aug rs qs false d1 d2 rfl haw hf1
 obtain⟨h5,h9⟩:=fW hg c0;rw[c0] at hf1;by_cases c1:LY qs=true
 case neg =>
  rw[Aex] at c1;rw[c1] at hf2;exact Auf rs qs true false d1 d2 rfl rfl haw hf1 hf2
 obtain⟨q5,q9⟩:=fW hgq c1;rw[c1] at hf2;have hdeg:=Xk (fun r h=>(h5 r h).mono (by omega)) (show rs.length<=1048576 by omega);by_cases c2:(Y (M rs)).length<2
 ·exact Aud rs qs _ true true d1 d2 rfl rfl (by rw[decide_eq_true_eq];omega) haw hf1 hf2 hdeg
 have d3:decide ((((Y (M rs)).length:Nat):Int)-1<1)=false:=by rw[decide_eq_false_iff_not];omega
 have h0:Y (M rs) ≠ []:=by intro e;rw[e] at c2;simp at c2
 have hp:=gT c0 h0;have hs:(M rs).length<=6:=by rw[s];omega
 have hq:Y (M qs) ≠ []->Shortp (M qs):=fun g=>(gT c1 g).short (by rw[s];omega);have hall:=Auu h5 h9 hp;have hone:=fun y hy=>Aeb hp y hy;have hok:=fun y hy=>Aut (p:=M rs) y hy;have hLl:=iD h5 h9 hp;generalize P0 (M rs)=L at *
 have step:∀ i,i<L.length->W I tW (Xl false rs qs (L.map (Iv.out (Ab (M rs)))) (i:Nat)) .norm (Xl false rs qs (L.map (Iv.out (Ab (M rs)))) ((i+1:Nat):Int)):=by
  intro i hi;have ei:D R ((i:Int)+1)=((i+1:Nat):Int):=by rw[Bg (by omega) (by omega)];omega
  obtain⟨on,j,hj,wd⟩:=hone L[i] (Ds hi);have ok:=A5y (hok L[i] (Ds hi));have on:=on.yo;have wd:=wd.yo;have eg:(L.map (Iv.out (Ab (M rs)))).getD (A (i:Int)) zR=⟨(Ab (M rs)).map cn,(L[i].yo).r,((L[i].yo).a:Nat),(L[i].yo).t,((L[i].yo).b:Nat)⟩:=by
   rw[F,Z,C7,Af hi];rfl
  generalize L[i].yo=y at *
  obtain⟨z,z1,z2,_⟩:=Y6 hp hs q5 (by omega) hq on ok wd;obtain⟨w,w1,_,w3⟩:=Y6 hp hs h5 (by omega) (fun _=>hp.short hs) on ok wd;rw[w3 rfl] at w1;have s1:=Y7 hp q5 (by omega) on ok z1;have s2:=Y7 hp h5 (by omega) on ok w1;have kk:=A5q false rs qs (L.map (Iv.out (Ab (M rs)))) (i:Nat) ((Ab (M rs)).map cn) y.r y.t (y.a:Nat) (y.b:Nat) z (by simp) (by rw[decide_eq_true_eq,N];omega) (by rw[N];omega) (by rw[eg];exact s1) (by rw[eg];exact s2) (by rw[eg];exact qG hp) z2;rwa [ei] at kk
 have lp:=W.up (prog:=I) (c:=tW) (ex := .exit 0) (fin:=Xl false rs qs (L.map (Iv.out (Ab (M rs)))) (L.length:Int))
  (fun i=>Xl false rs qs (L.map (Iv.out (Ab (M rs)))) (i:Nat)) L.length (by nofun) step (A5r _ _ _ _ _ (by rw[decide_eq_false_iff_not,N];omega)) 0 (Bv _)
 exact Aue rs qs _ _ (L.map (Iv.out (Ab (M rs)))) true true d1 d2 rfl rfl d3 haw hf1 hf2 hdeg hall lp
theorem aw0:H I 118 [A6n 4 [A6m false,A6n 0 [],A6m true,A6n 1 [A6l A5 1],A6m false,A6n 0 [],A6m false,A6n 1 [A6l A5 1]],A6n 3 [A6m true,A6n 1 [A6l A5 1],A6m false,A6n 0 [],A6m false,A6n 1 [A6l A5 3]]] (A6p 2 2 [A6m false,A6n 0 [],A6m true,A6n 1 [A6l A5 1]]):=k BO (j _) 400 _ _ _ (by kernel_rfl)
theorem aw1:H I 118 [A6n 3 [A6m true,A6n 1 [A6l A5 1],A6m false,A6n 0 [],A6m false,A6n 1 [A6l A5 3]],A6n 2 [A6m false,A6n 0 [],A6m true,A6n 1 [A6l A5 1]]] (A6p 2 1 [A6m true,A6n 1 [A6l A5 1]]):=k BO (j _) 400 _ _ _ (by kernel_rfl)
theorem aw2:H I 118 [A6n 2 [A6m false,A6n 0 [],A6m true,A6n 1 [A6l A5 1]],A6n 1 [A6m true,A6n 1 [A6l A5 1]]] (A6p 2 0 []):=k BO (j _) 400 _ _ _ (by kernel_rfl)
theorem aw3:H I 135 [A6n 4 [A6m false,A6n 0 [],A6m true,A6n 1 [A6l A5 1],A6m false,A6n 0 [],A6m false,A6n 1 [A6l A5 1]],A6n 3 [A6m true,A6n 1 [A6l A5 1],A6m false,A6n 0 [],A6m false,A6n 1 [A6l A5 3]]] (A6p 2 1 [A6m false,A6n 1 [A6l A5 1]]):=k BO (b aw2 (b aw1 (b aw0 (j _)))) 400 _ _ _ (by kernel_rfl)
theorem aw4:H I 114 [A6n 4 [A6m false,A6n 0 [],A6m true,A6n 1 [A6l A5 1],A6m false,A6n 0 [],A6m false,A6n 1 [A6l A5 1]]] (A6n 4 [A6m false,A6n 0 [],A6m true,A6n 1 [A6l A5 1],A6m false,A6n 0 [],A6m false,A6n 1 [A6l A5 1]]):=k BO (b aw3 (j _)) 400 _ _ _ (by kernel_rfl)
theorem aw5:H I 118 [A6n 3 [A6m true,A6n 1 [A6l A5 1],A6m false,A6n 0 [],A6m false,A6n 1 [A6l A5 3]],A6n 2 [A6m false,A6n 0 [],A6m false,A6n 1 [A6l A5 1]]] (A6p 2 1 [A6m true,A6n 1 [A6l A5 1]]):=k BO (j _) 400 _ _ _ (by kernel_rfl)
theorem aw6:H I 118 [A6n 2 [A6m false,A6n 0 [],A6m false,A6n 1 [A6l A5 1]],A6n 1 [A6m false,A6n 1 [A6l A5 1]]] (A6p 2 0 []):=k BO (j _) 400 _ _ _ (by kernel_rfl)
theorem aw7:H I 67 [A6n 4 [A6m false,A6n 0 [],A6m true,A6n 1 [A6l A5 1],A6m false,A6n 0 [],A6m false,A6n 1 [A6l A5 1]]] (A6p 1 4 [A6n 4 [A6m false,A6n 0 [],A6m true,A6n 1 [A6l A5 1],A6m false,A6n 0 [],A6m false,A6n 1 [A6l A5 1]],A6n 3 [A6m true,A6n 1 [A6l A5 1],A6m false,A6n 0 [],A6m false,A6n 1 [A6l A5 3]],A6n 2 [A6m false,A6n 0 [],A6m false,A6n 1 [A6l A5 1]],A6n 1 [A6m false,A6n 1 [A6l A5 1]]]):=k BO (b aw6 (b aw5 (b aw4 (b aw0 (j _))))) 400 _ _ _ (by kernel_rfl)
theorem aw8:H I 65 [A6n 4 [A6m false,A6n 0 [],A6m true,A6n 1 [A6l A5 1],A6m false,A6n 0 [],A6m false,A6n 1 [A6l A5 1]],A6r [A6m true,A6n 1 [A6l A5 1],A6l R 0]] (A6l R 0):=k BO (j _) 400 _ _ _ (by kernel_rfl)
theorem aw9:H I 68 [A6n 4 [A6n 4 [A6m false,A6n 0 [],A6m true,A6n 1 [A6l A5 1],A6m false,A6n 0 [],A6m false,A6n 1 [A6l A5 1]],A6n 3 [A6m true,A6n 1 [A6l A5 1],A6m false,A6n 0 [],A6m false,A6n 1 [A6l A5 3]],A6n 2 [A6m false,A6n 0 [],A6m false,A6n 1 [A6l A5 1]],A6n 1 [A6m false,A6n 1 [A6l A5 1]]],A6r [A6m true,A6n 1 [A6l A5 1],A6l R 0]] (A6l R 2):=k BO (b aw8 (j _)) 400 _ _ _ (by kernel_rfl)
theorem A4n:H I 65 [A6n 4 [A6m false,A6n 0 [],A6m true,A6n 1 [A6l A5 1],A6m false,A6n 0 [],A6m false,A6n 1 [A6l A5 1]],A6r [A6m false,A6n 1 [A6l A5 2],A6l R 0]] (A6l R 1):=k BO (j _) 400 _ _ _ (by kernel_rfl)
theorem A4o:H I 68 [A6n 4 [A6n 4 [A6m false,A6n 0 [],A6m true,A6n 1 [A6l A5 1],A6m false,A6n 0 [],A6m false,A6n 1 [A6l A5 1]],A6n 3 [A6m true,A6n 1 [A6l A5 1],A6m false,A6n 0 [],A6m false,A6n 1 [A6l A5 3]],A6n 2 [A6m false,A6n 0 [],A6m false,A6n 1 [A6l A5 1]],A6n 1 [A6m false,A6n 1 [A6l A5 1]]],A6r [A6m false,A6n 1 [A6l A5 2],A6l R 0]] (A6l R 0):=k BO (b A4n (j _)) 400 _ _ _ (by kernel_rfl)
theorem aw12:H I 65 [A6n 4 [A6m false,A6n 0 [],A6m true,A6n 1 [A6l A5 1],A6m false,A6n 0 [],A6m false,A6n 1 [A6l A5 1]],A6r [A6m false,A6n 1 [A6l A5 1],A6l R 1]] (A6l R (-1)):=k BO (j _) 400 _ _ _ (by kernel_rfl)
theorem Avi:H I 68 [A6n 4 [A6n 4 [A6m false,A6n 0 [],A6m true,A6n 1 [A6l A5 1],A6m false,A6n 0 [],A6m false,A6n 1 [A6l A5 1]],A6n 3 [A6m true,A6n 1 [A6l A5 1],A6m false,A6n 0 [],A6m false,A6n 1 [A6l A5 3]],A6n 2 [A6m false,A6n 0 [],A6m false,A6n 1 [A6l A5 1]],A6n 1 [A6m false,A6n 1 [A6l A5 1]]],A6r [A6m false,A6n 1 [A6l A5 1],A6l R 1]] (A6l R 1):=k BO (b aw12 (j _)) 400 _ _ _ (by kernel_rfl)
theorem aw14:H I 15 [A6n 4 [A6m false,A6n 0 [],A6m true,A6n 1 [A6l A5 1],A6m false,A6n 0 [],A6m false,A6n 1 [A6l A5 1]],A6r [A6m true,A6n 1 [A6l A5 1],A6l R 0],A6r [A6m false,A6n 1 [A6l A5 2],A6l R 0]] (A6t [A6n 2 [A6n 4 [A6m false,A6n 0 [],A6m true,A6n 1 [A6l A5 1],A6m false,A6n 0 [],A6m false,A6n 1 [A6l A5 1]],A6m true,A6n 1 [A6l A5 1],A6l R 0,A6m false,A6n 1 [A6l A5 1],A6l R 1,A6n 4 [A6m false,A6n 0 [],A6m true,A6n 1 [A6l A5 1],A6m false,A6n 0 [],A6m false,A6n 1 [A6l A5 1]],A6m false,A6n 1 [A6l A5 1],A6l R 1,A6m false,A6n 1 [A6l A5 2],A6l R 0],A6l R 0]):=k BO (b Avi (b A4o (b aw9 (b aw7 (j _))))) 400 _ _ _ (by kernel_rfl)
theorem A4p:H I 118 [A6n 3 [A6m true,A6n 1 [A6l A5 2],A6m false,A6n 0 [],A6m false,A6n 1 [A6l A5 1]],A6n 2 [A6m false,A6n 0 [],A6m false,A6n 1 [A6l A5 1]]] (A6p 2 1 [A6m true,A6n 1 [A6l A5 1]]):=k BO (j _) 400 _ _ _ (by kernel_rfl)
theorem aw16:H I 118 [A6n 2 [A6m false,A6n 0 [],A6m false,A6n 1 [A6l A5 1]],A6n 1 [A6m true,A6n 1 [A6l A5 1]]] (A6p 2 0 []):=k BO (j _) 400 _ _ _ (by kernel_rfl)
theorem aw17:H I 135 [A6n 3 [A6m true,A6n 1 [A6l A5 2],A6m false,A6n 0 [],A6m false,A6n 1 [A6l A5 1]],A6n 2 [A6m false,A6n 0 [],A6m false,A6n 1 [A6l A5 2]]] (A6p 2 1 [A6m false,A6n 1 [A6l A5 1]]):=k BO (b aw16 (b A4p (j _))) 400 _ _ _ (by kernel_rfl)
theorem A4q:H I 114 [A6n 3 [A6m true,A6n 1 [A6l A5 2],A6m false,A6n 0 [],A6m false,A6n 1 [A6l A5 1]]] (A6n 3 [A6m true,A6n 1 [A6l A5 2],A6m false,A6n 0 [],A6m false,A6n 1 [A6l A5 1]]):=k BO (b aw17 (j _)) 400 _ _ _ (by kernel_rfl)
theorem Avj:H I 67 [A6n 3 [A6m true,A6n 1 [A6l A5 2],A6m false,A6n 0 [],A6m false,A6n 1 [A6l A5 1]]] (A6p 1 3 [A6n 3 [A6m true,A6n 1 [A6l A5 2],A6m false,A6n 0 [],A6m false,A6n 1 [A6l A5 1]],A6n 2 [A6m false,A6n 0 [],A6m false,A6n 1 [A6l A5 1]],A6n 1 [A6m false,A6n 1 [A6l A5 1]]]):=k BO (b A4q (b A4p (b aw6 (j _)))) 400 _ _ _ (by kernel_rfl)
theorem Avk:H I 68 [A6n 3 [A6n 3 [A6m true,A6n 1 [A6l A5 2],A6m false,A6n 0 [],A6m false,A6n 1 [A6l A5 1]],A6n 2 [A6m false,A6n 0 [],A6m false,A6n 1 [A6l A5 1]],A6n 1 [A6m false,A6n 1 [A6l A5 1]]],A6r [A6m false,A6n 0 [],A6l R 0]] (A6l R 1):=k BO (j _) 400 _ _ _ (by kernel_rfl)
theorem Avl:H I 68 [A6n 3 [A6n 3 [A6m true,A6n 1 [A6l A5 2],A6m false,A6n 0 [],A6m false,A6n 1 [A6l A5 1]],A6n 2 [A6m false,A6n 0 [],A6m false,A6n 1 [A6l A5 1]],A6n 1 [A6m false,A6n 1 [A6l A5 1]]],A6r [A6m false,A6n 1 [A6l A5 2],A6l R 0]] (A6l R 0):=k BO (j _) 400 _ _ _ (by kernel_rfl)
theorem aw22:H I 15 [A6n 3 [A6m true,A6n 1 [A6l A5 2],A6m false,A6n 0 [],A6m false,A6n 1 [A6l A5 1]],A6r [A6m false,A6n 0 [],A6l R 0],A6r [A6m false,A6n 1 [A6l A5 2],A6l R 0]] (A6t [A6n 1 [A6n 3 [A6m true,A6n 1 [A6l A5 2],A6m false,A6n 0 [],A6m false,A6n 1 [A6l A5 1]],A6m false,A6n 0 [],A6l R 0,A6m false,A6n 1 [A6l A5 2],A6l R 0],A6l R 0]):=k BO (b Avl (b Avk (b Avj (j _)))) 400 _ _ _ (by kernel_rfl)
theorem Avm:H I 115 [A6n 4 [A6m false,A6n 0 [],A6m false,A6n 0 [],A6m false,A6n 0 [],A6m false,A6n 1 [A6l A5 4]]] (A6p 2 4 [A6m false,A6n 0 [],A6m false,A6n 0 [],A6m false,A6n 0 [],A6m false,A6n 1 [A6l A5 1]]):=k BO (j _) 400 _ _ _ (by kernel_rfl)
theorem Avn:H I 118 [A6n 5 [A6m true,A6n 1 [A6l A5 4],A6m false,A6n 0 [],A6m false,A6n 0 [],A6m false,A6n 0 [],A6m false,A6n 1 [A6l A5 1]],A6n 4 [A6m false,A6n 0 [],A6m false,A6n 0 [],A6m false,A6n 0 [],A6m false,A6n 1 [A6l A5 1]]] (A6p 2 1 [A6m true,A6n 1 [A6l A5 1]]):=k BO (j _) 400 _ _ _ (by kernel_rfl)
theorem aw25:H I 118 [A6n 4 [A6m false,A6n 0 [],A6m false,A6n 0 [],A6m false,A6n 0 [],A6m false,A6n 1 [A6l A5 1]],A6n 1 [A6m true,A6n 1 [A6l A5 1]]] (A6p 2 0 []):=k BO (j _) 400 _ _ _ (by kernel_rfl)
theorem Avo:H I 114 [A6n 5 [A6m true,A6n 1 [A6l A5 4],A6m false,A6n 0 [],A6m false,A6n 0 [],A6m false,A6n 0 [],A6m false,A6n 1 [A6l A5 1]]] (A6n 5 [A6m true,A6n 1 [A6l A5 4],A6m false,A6n 0 [],A6m false,A6n 0 [],A6m false,A6n 0 [],A6m false,A6n 1 [A6l A5 1]]):=k BO (b aw25 (b Avn (b Avm (j _)))) 400 _ _ _ (by kernel_rfl)
theorem A4r:H I 118 [A6n 4 [A6m false,A6n 0 [],A6m false,A6n 0 [],A6m false,A6n 0 [],A6m false,A6n 1 [A6l A5 1]],A6n 1 [A6m false,A6n 1 [A6l A5 1]]] (A6p 2 0 []):=k BO (j _) 400 _ _ _ (by kernel_rfl)
theorem aw28:H I 65 [A6n 5 [A6m true,A6n 1 [A6l A5 4],A6m false,A6n 0 [],A6m false,A6n 0 [],A6m false,A6n 0 [],A6m false,A6n 1 [A6l A5 1]],A6r [A6m false,A6n 0 [],A6l R 0]] (A6l R (-1)):=k BO (j _) 400 _ _ _ (by kernel_rfl)
theorem A4s:H I 68 [A6n 3 [A6n 5 [A6m true,A6n 1 [A6l A5 4],A6m false,A6n 0 [],A6m false,A6n 0 [],A6m false,A6n 0 [],A6m false,A6n 1 [A6l A5 1]],A6n 4 [A6m false,A6n 0 [],A6m false,A6n 0 [],A6m false,A6n 0 [],A6m false,A6n 1 [A6l A5 1]],A6n 1 [A6m false,A6n 1 [A6l A5 1]]],A6r [A6m false,A6n 0 [],A6l R 0]] (A6l R 1):=k BO (b aw28 (j _)) 400 _ _ _ (by kernel_rfl)
theorem A4t:H I 65 [A6n 5 [A6m true,A6n 1 [A6l A5 4],A6m false,A6n 0 [],A6m false,A6n 0 [],A6m false,A6n 0 [],A6m false,A6n 1 [A6l A5 1]],A6r [A6m false,A6n 1 [A6l A5 5],A6l R 0]] (A6l R 1):=k BO (j _) 400 _ _ _ (by kernel_rfl)
theorem A4u:H I 65 [A6n 4 [A6m false,A6n 0 [],A6m false,A6n 0 [],A6m false,A6n 0 [],A6m false,A6n 1 [A6l A5 1]],A6r [A6m false,A6n 1 [A6l A5 5],A6l R 0]] (A6l R 1):=k BO (j _) 400 _ _ _ (by kernel_rfl)
theorem aw32:H I 56 [A6n 5 [A6m true,A6n 1 [A6l A5 4],A6m false,A6n 0 [],A6m false,A6n 0 [],A6m false,A6n 0 [],A6m false,A6n 1 [A6l A5 1]],A6r [A6m false,A6n 0 [],A6l R 0],A6r [A6m false,A6n 1 [A6l A5 5],A6l R 0],A6l R 896] (A6t [A6n 1 [A6n 5 [A6m true,A6n 1 [A6l A5 4],A6m false,A6n 0 [],A6m false,A6n 0 [],A6m false,A6n 0 [],A6m false,A6n 1 [A6l A5 1]],A6m false,A6n 0 [],A6l R 0,A6m false,A6n 1 [A6l A5 5],A6l R 0],A6m true]):=k BO (b A4u (b A4t (b A4s (b A4r (b Avo (b Avn (b Avm (j _)))))))) 400 _ _ _ (by kernel_rfl)
theorem aw33:H I 15 [A6n 5 [A6m true,A6n 1 [A6l A5 4],A6m false,A6n 0 [],A6m false,A6n 0 [],A6m false,A6n 0 [],A6m false,A6n 1 [A6l A5 1]],A6r [A6m false,A6n 0 [],A6l R 0],A6r [A6m false,A6n 1 [A6l A5 5],A6l R 0]] (A6t [A6n 1 [A6n 5 [A6m true,A6n 1 [A6l A5 4],A6m false,A6n 0 [],A6m false,A6n 0 [],A6m false,A6n 0 [],A6m false,A6n 1 [A6l A5 1]],A6m false,A6n 0 [],A6l R 0,A6m false,A6n 1 [A6l A5 5],A6l R 0],A6l R 0]):=k BO (b aw32 (j _)) 400 _ _ _ (by kernel_rfl)
theorem aw34:H I 76 [A6r [A6n 3 [A6m true,A6n 1 [A6l A5 2],A6m false,A6n 0 [],A6m false,A6n 1 [A6l A5 1]],A6m false,A6n 0 [],A6l R 0,A6m false,A6n 1 [A6l A5 2],A6l R 0],A6r [A6m false,A6n 1 [A6l A5 1],A6l R 0]] (A6l R 1):=k BO (j _) 400 _ _ _ (by kernel_rfl)
theorem aw35:H I 76 [A6r [A6n 3 [A6m true,A6n 1 [A6l A5 2],A6m false,A6n 0 [],A6m false,A6n 1 [A6l A5 1]],A6m false,A6n 1 [A6l A5 1],A6l R 0,A6m false,A6n 1 [A6l A5 2],A6l R 0],A6r [A6m false,A6n 1 [A6l A5 3],A6l R 1]] (A6l R (-1)):=k BO (j _) 400 _ _ _ (by kernel_rfl)
theorem aw36:H I 76 [A6r [A6n 3 [A6m true,A6n 1 [A6l A5 2],A6m false,A6n 0 [],A6m false,A6n 1 [A6l A5 1]],A6m false,A6n 1 [A6l A5 1],A6l R 0,A6m false,A6n 1 [A6l A5 3],A6l R 1],A6r [A6m false,A6n 1 [A6l A5 3],A6l R 1]] (A6l R (-1)):=k BO (j _) 400 _ _ _ (by kernel_rfl)
theorem aw37:H I 77 [A6r [A6n 3 [A6m true,A6n 1 [A6l A5 2],A6m false,A6n 0 [],A6m false,A6n 1 [A6l A5 1]],A6m false,A6n 0 [],A6l R 0,A6m false,A6n 1 [A6l A5 2],A6l R 0],A6l R 1] (A6r [A6m false,A6n 1 [A6l A5 2]]):=k BO (b aw36 (b aw35 (b aw34 (j _)))) 400 _ _ _ (by kernel_rfl)
theorem aw38:H I 18 [A6r [A6n 5 [A6m true,A6n 1 [A6l A5 4],A6m false,A6n 0 [],A6m false,A6n 0 [],A6m false,A6n 0 [],A6m false,A6n 1 [A6l A5 1]],A6m false,A6n 0 [],A6l R 0,A6m false,A6n 1 [A6l A5 5],A6l R 0]] (A6m true):=k BO (b A4u (b A4t (b A4s (b A4r (b Avo (b Avn (b Avm (j _)))))))) 400 _ _ _ (by kernel_rfl)
theorem aw39:H I 118 [A6n 3 [A6m true,A6n 1 [A6l A5 2],A6m false,A6n 0 [],A6m false,A6n 1 [A6l A5 1]],A6n 5 [A6m true,A6n 1 [A6l A5 4],A6m false,A6n 0 [],A6m false,A6n 0 [],A6m false,A6n 0 [],A6m false,A6n 1 [A6l A5 1]]] (A6p 2 3 [A6m true,A6n 1 [A6l A5 2],A6m false,A6n 0 [],A6m false,A6n 1 [A6l A5 1]]):=k BO (j _) 400 _ _ _ (by kernel_rfl)
theorem aw40:H I 115 [A6n 5 [A6m true,A6n 1 [A6l A5 4],A6m false,A6n 0 [],A6m false,A6n 1 [A6l A5 2],A6m false,A6n 0 [],A6m false,A6n 0 []]] (A6p 2 3 [A6m true,A6n 1 [A6l A5 2],A6m false,A6n 0 [],A6m false,A6n 1 [A6l A5 1]]):=k BO (j _) 400 _ _ _ (by kernel_rfl)
theorem aw41:H I 118 [A6n 5 [A6m true,A6n 1 [A6l A5 4],A6m false,A6n 0 [],A6m false,A6n 0 [],A6m false,A6n 0 [],A6m false,A6n 1 [A6l A5 1]],A6n 3 [A6m true,A6n 1 [A6l A5 2],A6m false,A6n 0 [],A6m false,A6n 1 [A6l A5 1]]] (A6p 2 0 []):=k BO (b aw40 (j _)) 400 _ _ _ (by kernel_rfl)
theorem aw42:H I 135 [A6n 3 [A6m true,A6n 1 [A6l A5 2],A6m false,A6n 0 [],A6m false,A6n 1 [A6l A5 1]],A6n 5 [A6m true,A6n 1 [A6l A5 4],A6m false,A6n 0 [],A6m false,A6n 0 [],A6m false,A6n 0 [],A6m false,A6n 1 [A6l A5 1]]] (A6n 3 [A6m true,A6n 1 [A6l A5 2],A6m false,A6n 0 [],A6m false,A6n 1 [A6l A5 1]]):=k BO (b aw41 (b aw39 (j _))) 400 _ _ _ (by kernel_rfl)
theorem aw43:H I 74 [A6r [A6n 3 [A6m true,A6n 1 [A6l A5 2],A6m false,A6n 0 [],A6m false,A6n 1 [A6l A5 1]],A6m false,A6n 0 [],A6l R 0,A6m false,A6n 1 [A6l A5 2],A6l R 0],A6r [A6n 5 [A6m true,A6n 1 [A6l A5 4],A6m false,A6n 0 [],A6m false,A6n 0 [],A6m false,A6n 0 [],A6m false,A6n 1 [A6l A5 1]],A6m false,A6n 0 [],A6l R 0,A6m false,A6n 1 [A6l A5 5],A6l R 0]] (A6l R 0):=k BO (b aw42 (b Avl (b Avk (b Avj (j _))))) 400 _ _ _ (by kernel_rfl)
theorem aw44:H I 18 [A6r [A6n 4 [A6m false,A6n 0 [],A6m true,A6n 1 [A6l A5 1],A6m false,A6n 0 [],A6m false,A6n 1 [A6l A5 1]],A6m false,A6n 1 [A6l A5 1],A6l R 1,A6m false,A6n 1 [A6l A5 2],A6l R 0]] (A6m true):=k BO (b Avi (b A4o (b aw7 (j _)))) 400 _ _ _ (by kernel_rfl)
theorem aw45:H I 65 [A6n 4 [A6m false,A6n 0 [],A6m true,A6n 1 [A6l A5 1],A6m false,A6n 0 [],A6m false,A6n 1 [A6l A5 1]],A6r [A6m false,A6n 1 [A6l A5 1],A6l R 0]] (A6l R 0):=k BO (j _) 400 _ _ _ (by kernel_rfl)
theorem aw46:H I 18 [A6r [A6n 4 [A6m false,A6n 0 [],A6m true,A6n 1 [A6l A5 1],A6m false,A6n 0 [],A6m false,A6n 1 [A6l A5 1]],A6m true,A6n 1 [A6l A5 1],A6l R 0,A6m false,A6n 1 [A6l A5 1],A6l R 1]] (A6m true):=k BO (b Avi (b aw9 (b aw7 (j _)))) 400 _ _ _ (by kernel_rfl)
theorem aw47:H I 12 [] (A6m true):=k BO (b aw46 (b aw45 (b aw44 (b aw43 (b aw38 (b aw37 (b aw33 (b Avo (b aw22 (b Avl (b Avk (b Avj (b A4q (b aw14 (b A4n (b aw4 (j _))))))))))))))))) 400 _ _ _ (by kernel_rfl)
theorem A1w:H I 12 [] (A6m true):=aw47
end Go.Proofs.YtajompaehjkgkaaGreat
