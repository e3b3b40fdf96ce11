/- Texts of the proof of RootValid, packed by pack.py: part 10 of 21. -/
import Derived.Test.YtopjpgejefileaaGreatRvp9
namespace Go.Proofs.YtopjpgejefileaaGreat
open Go.IntKind (i64 u64 u32)
open Go.Ai
set_option maxRecDepth 100000
def Ga (N:Nat) (cs:List AV) (M:Nat) (ds:List AV) (v i:Int):Zk:=(.val (.sl N cs)::(.val (.sl M ds)::(dds 2 (.val (.int .i64 v)::(.val (.int .i64 i)::(dds 35 []))))))
theorem Zz0 (N:Nat) (cs:List AV) (M:Nat) (ds:List AV) (v i x y:Int) (c1:(decide (i>=0))=true) (c2:(x != y)=true) (c3:(decide (x<y))=true) (n1:0<=i/\i<(N:Int)) (n2:Qn (List.drop (Int.toNat i*1) cs) 0 1 true=some (.int .u32 x)) (n3:0<=i/\i<(M:Int)) (n4:Qn (List.drop (Int.toNat i*1) ds) 0 1 true=some (.int .u32 y)) (n5:0<=i/\i<(N:Int)) (n6:Qn (List.drop (Int.toNat i*1) cs) 0 1 true=some (.int .u32 x)) (n7:0<=i/\i<(M:Int)) (n8:Qn (List.drop (Int.toNat i*1) ds) 0 1 true=some (.int .u32 y)):Za Yir Lr (Ga N cs M ds v i) .ret (Ga N cs M ds (-1) i):=Za.go Zw 300 [.b true,.v (.int .u32 x),.v (.int .u32 y),.b true,.v (.int .u32 x),.v (.int .u32 y),.b true] [0,1,4,5] (ac c1 (ac n1 (ac n2 (ac n3 (ac n4 (ac c2 (ac n5 (ac n6 (ac n7 (ac n8 (ac c3 a0))))))))))) (by kernel_rfl)
theorem Zzz (N:Nat) (cs:List AV) (M:Nat) (ds:List AV) (v i x y:Int) (c1:(decide (i>=0))=true) (c2:(x != y)=true) (c3:(decide (x<y))=false) (n1:0<=i/\i<(N:Int)) (n2:Qn (List.drop (Int.toNat i*1) cs) 0 1 true=some (.int .u32 x)) (n3:0<=i/\i<(M:Int)) (n4:Qn (List.drop (Int.toNat i*1) ds) 0 1 true=some (.int .u32 y)) (n5:0<=i/\i<(N:Int)) (n6:Qn (List.drop (Int.toNat i*1) cs) 0 1 true=some (.int .u32 x)) (n7:0<=i/\i<(M:Int)) (n8:Qn (List.drop (Int.toNat i*1) ds) 0 1 true=some (.int .u32 y)):Za Yir Lr (Ga N cs M ds v i) .ret (Ga N cs M ds 1 i):=Za.go Zw 300 [.b true,.v (.int .u32 x),.v (.int .u32 y),.b true,.v (.int .u32 x),.v (.int .u32 y),.b false] [0,1,4,5] (ac c1 (ac n1 (ac n2 (ac n3 (ac n4 (ac c2 (ac n5 (ac n6 (ac n7 (ac n8 (ac c3 a0))))))))))) (by kernel_rfl)
theorem Zzy (N:Nat) (cs:List AV) (M:Nat) (ds:List AV) (v i x y:Int) (c1:(decide (i>=0))=true) (c2:(x != y)=false) (n1:0<=i/\i<(N:Int)) (n2:Qn (List.drop (Int.toNat i*1) cs) 0 1 true=some (.int .u32 x)) (n3:0<=i/\i<(M:Int)) (n4:Qn (List.drop (Int.toNat i*1) ds) 0 1 true=some (.int .u32 y)):Za Yir Lr (Ga N cs M ds v i) .norm (Ga N cs M ds v (i64.wrap (i-1))):=Za.go Zw 300 [.b true,.v (.int .u32 x),.v (.int .u32 y),.b false] [0,1,4,5] (ac c1 (ac n1 (ac n2 (ac n3 (ac n4 (ac c2 a0)))))) (by kernel_rfl)
theorem Zzx (N:Nat) (cs:List AV) (M:Nat) (ds:List AV) (v i:Int) (c1:(decide (i>=0))=false):Za Yir Lr (Ga N cs M ds v i) (.exit 0) (Ga N cs M ds v i):=Za.go Zw 300 [.b false] [0,1,4,5] (ac c1 a0) (by kernel_rfl)
theorem Zqm (xs ys:List Int) (hN:xs.length<=1048576) (hl:xs.length=ys.length):∀ m,m<=xs.length ->
  (B0 xs ys m=0/\Za Yir (.loop Lr) (Ga xs.length (lm xs) ys.length (lm ys) 0 ((m:Int)-1)) (.exit 0) (Ga xs.length (lm xs) ys.length (lm ys) 0 (-1))) \/
  (B0 xs ys m ≠ 0/\∃ j,Za Yir (.loop Lr) (Ga xs.length (lm xs) ys.length (lm ys) 0 ((m:Int)-1)) .ret (Ga xs.length (lm xs) ys.length (lm ys) (B0 xs ys m) j)):=by
 intro m;induction m with
 | zero =>
  intro _;left;refine⟨rfl,?_⟩;exact Za.loop_out (Zzx xs.length (lm xs) ys.length (lm ys) 0 (((0:Nat):Int)-1) (by simp)) nofun
 | succ m ih =>
  intro hm;have e0:((m+1:Nat):Int)-1=(m:Int):=by omega
  have e1:i64.wrap ((m:Int)-1)=(m:Int)-1:=w64 (by omega) (by omega);have hx:=J6 (xs:=xs) (i:=m) (by omega);have hy:=J6 (xs:=ys) (i:=m) (by omega);rw[e0];simp only[B0];by_cases h:xs.getD m 0=ys.getD m 0
  ·rw[if_pos h];have h1:=Zzy xs.length (lm xs) ys.length (lm ys) 0 (m:Int) (xs.getD m 0) (ys.getD m 0) (by simp) (by simpa using h) (by omega) (by rw[Int.toNat_natCast];exact hx) (by omega) (by rw[Int.toNat_natCast];exact hy);rw[e1] at h1;rcases ih (by omega) with ⟨k1,k2⟩ | ⟨k1,j,k2⟩
   ·exact .inl ⟨k1,Za.loop h1 k2⟩
   ·exact .inr ⟨k1,j,Za.loop h1 k2⟩
  ·rw[if_neg h];right;by_cases hlt:xs.getD m 0<ys.getD m 0
   ·rw[if_pos hlt];refine⟨by decide,(m:Int),?_⟩;exact Za.loop_out (Zz0 xs.length (lm xs) ys.length (lm ys) 0 (m:Int) (xs.getD m 0) (ys.getD m 0) (by simp) (by simpa using h) (by simpa using hlt) (by omega) (by rw[Int.toNat_natCast];exact hx) (by omega) (by rw[Int.toNat_natCast];exact hy) (by omega) (by rw[Int.toNat_natCast];exact hx) (by omega) (by rw[Int.toNat_natCast];exact hy)) nofun
   ·rw[if_neg hlt];refine⟨by decide,(m:Int),?_⟩;exact Za.loop_out (Zzz xs.length (lm xs) ys.length (lm ys) 0 (m:Int) (xs.getD m 0) (ys.getD m 0) (by simp) (by simpa using h) (by simpa using hlt) (by omega) (by rw[Int.toNat_natCast];exact hx) (by omega) (by rw[Int.toNat_natCast];exact hy) (by omega) (by rw[Int.toNat_natCast];exact hx) (by omega) (by rw[Int.toNat_natCast];exact hy)) nofun
theorem Zec (xs ys:List Int) (h:((xs.length:Int) != (ys.length:Int))=true) (h2:(decide ((xs.length:Int)<(ys.length:Int)))=true):Zc Yir 151 [.sl xs.length (lm xs),.sl ys.length (lm ys)] (.int .i64 (-1)):=Zc.script (ps:=[((xs.length:Int) != (ys.length:Int))=true,(decide ((xs.length:Int)<(ys.length:Int)))=true]) Zw rfl 300 rfl [.b true,.b true] (by kernel_rfl) ⟨h,h2,trivial⟩
theorem Zed (xs ys:List Int) (h:((xs.length:Int) != (ys.length:Int))=true) (h2:(decide ((xs.length:Int)<(ys.length:Int)))=false):Zc Yir 151 [.sl xs.length (lm xs),.sl ys.length (lm ys)] (.int .i64 1):=Zc.script (ps:=[((xs.length:Int) != (ys.length:Int))=true,(decide ((xs.length:Int)<(ys.length:Int)))=false]) Zw rfl 300 rfl [.b true,.b false] (by kernel_rfl) ⟨h,h2,trivial⟩
theorem Zee (xs ys:List Int) (h:((xs.length:Int) != (ys.length:Int))=false) (hl:Za Yir (.loop Lr) (Ga xs.length (lm xs) ys.length (lm ys) 0 (i64.wrap ((xs.length:Int)-1))) (.exit 0) (Ga xs.length (lm xs) ys.length (lm ys) 0 (-1))):Zc Yir 151 [.sl xs.length (lm xs),.sl ys.length (lm ys)] (.int .i64 0):=Zc.of_bodyW (fn:=Zes) (s:=(.val (.sl xs.length (lm xs))::(.val (.sl ys.length (lm ys))::(dds 2 (.val (.int .i64 0)::(.val (.int .i64 (-1))::(dds 35 []))))))) (ex := .ret) rfl rfl (Za.seq (Za.go (t:=(vl xs::(vl ys::(dds 2 (vi 0::(dds 36 [])))))) Zw 300 [] [0,1,4] a0) (Za.seq (Za.go (t:=(vl xs::(vl ys::(dds 2 (vi 0::(dds 1 (vl xs::(vi (xs.length:Int)::(vl ys::(vi (ys.length:Int)::(.val (.bool ((xs.length:Int) != (ys.length:Int)))::(dds 30 [])))))))))))) Zw 300 [.b false] [0,1,4,6,7,8,9,10] (ac (show ((xs.length:Int) != (ys.length:Int))=false from h) a0)) (Za.seq (Za.seq (Za.go (t:=(vl xs::(vl ys::(dds 2 (vi 0::(vi (i64.wrap ((xs.length:Int)-1))::(dds 35 []))))))) Zw 300 [] [0,1,4,5] a0) (Za.block hl)) (Za.go (t:=(vl xs::(vl ys::(dds 2 (vi 0::(vi (-1)::(dds 35 []))))))) (ex := .ret) Zw 300 [] [0,1,4,5] a0)))) nofun rfl
theorem Zeb (xs ys:List Int) (r j:Int) (h:((xs.length:Int) != (ys.length:Int))=false) (hl:Za Yir (.loop Lr) (Ga xs.length (lm xs) ys.length (lm ys) 0 (i64.wrap ((xs.length:Int)-1))) .ret (Ga xs.length (lm xs) ys.length (lm ys) r j)):Zc Yir 151 [.sl xs.length (lm xs),.sl ys.length (lm ys)] (.int .i64 r):=Zc.of_bodyW (fn:=Zes) (s:=(.val (.sl xs.length (lm xs))::(.val (.sl ys.length (lm ys))::(dds 2 (.val (.int .i64 r)::(.val (.int .i64 j)::(dds 35 []))))))) (ex := .ret) rfl rfl (Za.seq (Za.go (t:=(vl xs::(vl ys::(dds 2 (vi 0::(dds 36 [])))))) Zw 300 [] [0,1,4] a0) (Za.seq (Za.go (t:=(vl xs::(vl ys::(dds 2 (vi 0::(dds 1 (vl xs::(vi (xs.length:Int)::(vl ys::(vi (ys.length:Int)::(.val (.bool ((xs.length:Int) != (ys.length:Int)))::(dds 30 [])))))))))))) Zw 300 [.b false] [0,1,4,6,7,8,9,10] (ac (show ((xs.length:Int) != (ys.length:Int))=false from h) a0)) (Za.seq_out (Za.seq (Za.go (t:=(vl xs::(vl ys::(dds 2 (vi 0::(vi (i64.wrap ((xs.length:Int)-1))::(dds 35 []))))))) Zw 300 [] [0,1,4,5] a0) (Za.block_ret hl)) nofun))) nofun rfl
theorem Wg {xs ys:List Int} (hx:We xs) (hy:We ys) (hN:xs.length<=1048576):Zc Yir 151 [.sl xs.length (lm xs),.sl ys.length (lm ys)] (.int .i64 (U0 (Zj xs) (Zj ys))):=by
 by_cases hl:xs.length=ys.length
 ·have h:((xs.length:Int) != (ys.length:Int))=false:=by rw[hl];simp
  have hg:=Zcg hx.1 hy.1 xs.length (Nat.le_refl _) (by omega);rw[List.take_length,hl,List.take_length,<- hl] at hg;have e1:i64.wrap ((xs.length:Int)-1)=(xs.length:Int)-1:=w64 (by omega) (by omega);rcases Zqm xs ys hN hl xs.length (Nat.le_refl _) with ⟨k1,k2⟩ | ⟨k1,j,k2⟩
  ·rw[<- hg,k1];exact Zee xs ys h (by rw[e1];exact k2)
  ·rw[<- hg];exact Zeb xs ys _ j h (by rw[e1];exact k2)
 ·have h:((xs.length:Int) != (ys.length:Int))=true:=by simp;omega
  by_cases hlt:xs.length<ys.length
  ·have e:U0 (Zj xs) (Zj ys) = -1:=by unfold U0;rw[if_pos (Kl hx hy hlt)]
   rw[e];exact Zec xs ys h (by simp;omega)
  ·have:=Kl hy hx (by omega);have e:U0 (Zj xs) (Zj ys)=1:=by unfold U0;rw[if_neg (by omega),if_pos this]
   rw[e];exact Zed xs ys h (by simp;omega)
def F4 (la:Nat) (xa:List AV) (lb:Nat) (xb:List AV) (n:Nat) (cs:List AV) (c:Int) (m:Int) (i:Int):Zk:=(.val (.sl la xa)::(.val (.sl lb xb)::(dds 2 (.own 1 0 []::(.own 1 n cs::(.val (.int .u64 c)::(dds 14 (.val (.int .i64 m)::(.val (.int .i64 i)::(dds 35 []))))))))))
theorem Zzc (la:Nat) (xa:List AV) (lb:Nat) (xb:List AV) (n:Nat) (cs:List AV) (c:Int) (m:Int) (i:Int) (ds:List AV) (x y:Int) (c1:(decide (i<m))=true) (c2:(decide (i<(lb:Int)))=true) (n1:0<=i/\i<(la:Int)) (n2:Qn (List.drop (Int.toNat i*1) xa) 0 1 true=some (.int .u32 x)) (n3:0<=i/\i<(lb:Int)) (n4:Qn (List.drop (Int.toNat i*1) xb) 0 1 true=some (.int .u32 y)) (n5:0<=i/\i<(n:Int)) (n6:X9 cs (Int.toNat i*1) [.int .u32 (u32.wrap (u64.wrap ((u64.wrap ((u64.wrap x)+c))+(u64.wrap y))))]=some ds):Za Yir R8 (F4 la xa lb xb n cs c m i) .norm (F4 la xa lb xb n ds (Int.fdiv (u64.wrap ((u64.wrap ((u64.wrap x)+c))+(u64.wrap y))) (2^(min (Int.toNat 32) (IntKind.bits .u64)))) m (i64.wrap (i+1))):=Za.go Zw 300 [.b true,.v (.int .u32 x),.b true,.v (.int .u32 y),.l ds] [0,1,4,5,6,21,22] (ac c1 (ac n1 (ac n2 (ac c2 (ac n3 (ac n4 (ac (show ¬ (32:Int)<0 from (by decide)) (ac n5 (ac n6 a0))))))))) (by kernel_rfl)
theorem Zzb (la:Nat) (xa:List AV) (lb:Nat) (xb:List AV) (n:Nat) (cs:List AV) (c:Int) (m:Int) (i:Int) (ds:List AV) (x:Int) (c1:(decide (i<m))=true) (c2:(decide (i<(lb:Int)))=false) (n1:0<=i/\i<(la:Int)) (n2:Qn (List.drop (Int.toNat i*1) xa) 0 1 true=some (.int .u32 x)) (n3:0<=i/\i<(n:Int)) (n4:X9 cs (Int.toNat i*1) [.int .u32 (u32.wrap (u64.wrap ((u64.wrap x)+c)))]=some ds):Za Yir R8 (F4 la xa lb xb n cs c m i) .norm (F4 la xa lb xb n ds (Int.fdiv (u64.wrap ((u64.wrap x)+c)) (2^(min (Int.toNat 32) (IntKind.bits .u64)))) m (i64.wrap (i+1))):=Za.go Zw 300 [.b true,.v (.int .u32 x),.b false,.l ds] [0,1,4,5,6,21,22] (ac c1 (ac n1 (ac n2 (ac c2 (ac (show ¬ (32:Int)<0 from (by decide)) (ac n3 (ac n4 a0))))))) (by kernel_rfl)
theorem Zza (la:Nat) (xa:List AV) (lb:Nat) (xb:List AV) (n:Nat) (cs:List AV) (c:Int) (m:Int) (i:Int) (c1:(decide (i<m))=false):Za Yir R8 (F4 la xa lb xb n cs c m i) (.exit 0) (F4 la xa lb xb n cs c m i):=Za.go Zw 300 [.b false] [0,1,4,5,6,21,22] (ac c1 a0) (by kernel_rfl)
theorem Zqh (xs ys:List Int) (hx:U32 xs) (hy:U32 ys) (n:Nat) (hn:n<=1048576) (hxn:xs.length<=n):∀ (r i:Nat) (o:List Int) (c:Int),r+i=xs.length->o.length=n->U32 o->0<=c/\c<=1 ->
  Za Yir (.loop R8) (F4 xs.length (lm xs) ys.length (lm ys) n (lm o) c (xs.length:Int) (i:Int)) (.exit 0)
   (F4 xs.length (lm xs) ys.length (lm ys) n (lm (F3 xs ys r i o c).1) (F3 xs ys r i o c).2 (xs.length:Int) (xs.length:Int)):=by
 intro r;induction r with
 | zero =>
  intro i o c hi _ _ _;have hi':i=xs.length:=by omega
  subst hi';exact Za.loop_out (Zza xs.length (lm xs) ys.length (lm ys) n (lm o) c (xs.length:Int) (xs.length:Int) (by simp)) nofun
 | succ r ih =>
  intro i o c hi hlo hu hc;have h1:=Zt hx i;have h2:=Zt hy i;have ei:i64.wrap ((i:Int)+1)=((i+1:Nat):Int):=by rw[w64 (by omega) (by omega)];omega
  have hxi:=J6 (xs:=xs) (i:=i) (by omega);have hst:=Ka (xs:=o) (i:=i) (v:=(xs.getD i 0+c+ys.getD i 0) % 4294967296) (by omega);by_cases hy2:i<ys.length
  ·have hyi:=J6 (xs:=ys) (i:=i) hy2;have eW:u32.wrap (u64.wrap (u64.wrap (u64.wrap (xs.getD i 0)+c)+u64.wrap (ys.getD i 0)))=(xs.getD i 0+c+ys.getD i 0) % 4294967296:=by rw[Wj,Qw,Qw,Qw,Qw];omega
   have eC:Int.fdiv (u64.wrap (u64.wrap (u64.wrap (xs.getD i 0)+c)+u64.wrap (ys.getD i 0))) (2^(min (Int.toNat 32) (IntKind.bits .u64)))=((xs.getD i 0+c+ys.getD i 0) / 4294967296):=by
    show Int.fdiv _ 4294967296=_;rw[Int.fdiv_eq_ediv_of_nonneg _ (by omega),Qw,Qw,Qw,Qw];omega
   have k:=Zzc xs.length (lm xs) ys.length (lm ys) n (lm o) c (xs.length:Int) (i:Int) (lm (o.set i ((xs.getD i 0+c+ys.getD i 0) % 4294967296))) (xs.getD i 0) (ys.getD i 0)
    (by simp;omega) (by simp;omega) (by omega) (by rw[Int.toNat_natCast];exact hxi) (by omega) (by rw[Int.toNat_natCast];exact hyi) (by omega) (by rw[Int.toNat_natCast,eW];exact hst)
   rw[eC,ei] at k;exact Za.loop k (ih (i+1) _ _ (by omega) (by simpa using hlo) (Q4 hu (by omega)) (by omega))
  ·have hy0:=Qo (xs:=ys) (i:=i) (by omega);have eW:u32.wrap (u64.wrap (u64.wrap (xs.getD i 0)+c))=(xs.getD i 0+c+ys.getD i 0) % 4294967296:=by rw[Wj,Qw,Qw];omega
   have eC:Int.fdiv (u64.wrap (u64.wrap (xs.getD i 0)+c)) (2^(min (Int.toNat 32) (IntKind.bits .u64)))=((xs.getD i 0+c+ys.getD i 0) / 4294967296):=by
    show Int.fdiv _ 4294967296=_;rw[Int.fdiv_eq_ediv_of_nonneg _ (by omega),Qw,Qw];omega
   have k:=Zzb xs.length (lm xs) ys.length (lm ys) n (lm o) c (xs.length:Int) (i:Int) (lm (o.set i ((xs.getD i 0+c+ys.getD i 0) % 4294967296))) (xs.getD i 0)
    (by simp;omega) (by simp;omega) (by omega) (by rw[Int.toNat_natCast];exact hxi) (by omega) (by rw[Int.toNat_natCast,eW];exact hst)
   rw[eC,ei] at k;exact Za.loop k (ih (i+1) _ _ (by omega) (by simpa using hlo) (Q4 hu (by omega)) (by omega))
def Nm (la:Nat) (xa:List AV) (lb:Nat) (xb:List AV) (n:Nat) (cs:List AV) (c:Int) (m:Int) (i:Int):Zk:=(.val (.sl la xa)::(.val (.sl lb xb)::(dds 2 (.own 1 0 []::(.own 1 n cs::(.val (.int .u64 c)::(dds 6 (.val (.int .i64 m)::(.val (.int .i64 i)::(dds 29 []))))))))))
theorem Zy9 (la:Nat) (xa:List AV) (lb:Nat) (xb:List AV) (n:Nat) (cs:List AV) (c:Int) (m:Int) (i:Int) (ds:List AV) (x y:Int) (c1:(decide (i<m))=true) (c2:(decide (i<(lb:Int)))=true) (n1:0<=i/\i<(la:Int)) (n2:Qn (List.drop (Int.toNat i*1) xa) 0 1 true=some (.int .u32 x)) (n3:0<=i/\i<(lb:Int)) (n4:Qn (List.drop (Int.toNat i*1) xb) 0 1 true=some (.int .u32 y)) (n5:0<=i/\i<(n:Int)) (n6:X9 cs (Int.toNat i*1) [.int .u32 (u32.wrap (u64.wrap ((u64.wrap ((u64.wrap x)-c))-(u64.wrap y))))]=some ds):Za Yir Ze4 (Nm la xa lb xb n cs c m i) .norm (Nm la xa lb xb n ds (Int.fdiv (u64.wrap ((u64.wrap ((u64.wrap x)-c))-(u64.wrap y))) (2^(min (Int.toNat 63) (IntKind.bits .u64)))) m (i64.wrap (i+1))):=Za.go Zw 300 [.b true,.v (.int .u32 x),.b true,.v (.int .u32 y),.l ds] [0,1,4,5,6,13,14] (ac c1 (ac n1 (ac n2 (ac c2 (ac n3 (ac n4 (ac (show ¬ (63:Int)<0 from (by decide)) (ac n5 (ac n6 a0))))))))) (by kernel_rfl)
theorem Zy8 (la:Nat) (xa:List AV) (lb:Nat) (xb:List AV) (n:Nat) (cs:List AV) (c:Int) (m:Int) (i:Int) (ds:List AV) (x:Int) (c1:(decide (i<m))=true) (c2:(decide (i<(lb:Int)))=false) (n1:0<=i/\i<(la:Int)) (n2:Qn (List.drop (Int.toNat i*1) xa) 0 1 true=some (.int .u32 x)) (n3:0<=i/\i<(n:Int)) (n4:X9 cs (Int.toNat i*1) [.int .u32 (u32.wrap (u64.wrap ((u64.wrap x)-c)))]=some ds):Za Yir Ze4 (Nm la xa lb xb n cs c m i) .norm (Nm la xa lb xb n ds (Int.fdiv (u64.wrap ((u64.wrap x)-c)) (2^(min (Int.toNat 63) (IntKind.bits .u64)))) m (i64.wrap (i+1))):=Za.go Zw 300 [.b true,.v (.int .u32 x),.b false,.l ds] [0,1,4,5,6,13,14] (ac c1 (ac n1 (ac n2 (ac c2 (ac (show ¬ (63:Int)<0 from (by decide)) (ac n3 (ac n4 a0))))))) (by kernel_rfl)
theorem Zy7 (la:Nat) (xa:List AV) (lb:Nat) (xb:List AV) (n:Nat) (cs:List AV) (c:Int) (m:Int) (i:Int) (c1:(decide (i<m))=false):Za Yir Ze4 (Nm la xa lb xb n cs c m i) (.exit 0) (Nm la xa lb xb n cs c m i):=Za.go Zw 300 [.b false] [0,1,4,5,6,13,14] (ac c1 a0) (by kernel_rfl)
theorem Zqg (xs ys:List Int) (hx:U32 xs) (hy:U32 ys) (n:Nat) (hn:n<=1048576) (hxn:xs.length<=n):∀ (r i:Nat) (o:List Int) (c:Int),r+i=xs.length->o.length=n->U32 o->0<=c/\c<=1 ->
  Za Yir (.loop Ze4) (Nm xs.length (lm xs) ys.length (lm ys) n (lm o) c (xs.length:Int) (i:Int)) (.exit 0)
   (Nm xs.length (lm xs) ys.length (lm ys) n (lm (Dc xs ys r i o c).1) (Dc xs ys r i o c).2 (xs.length:Int) (xs.length:Int)):=by
 intro r;induction r with
 | zero =>
  intro i o c hi _ _ _;have hi':i=xs.length:=by omega
  subst hi';exact Za.loop_out (Zy7 xs.length (lm xs) ys.length (lm ys) n (lm o) c (xs.length:Int) (xs.length:Int) (by simp)) nofun
 | succ r ih =>
  intro i o c hi hlo hu hc;have h1:=Zt hx i;have h2:=Zt hy i;have ei:i64.wrap ((i:Int)+1)=((i+1:Nat):Int):=by rw[w64 (by omega) (by omega)];omega
  have hxi:=J6 (xs:=xs) (i:=i) (by omega);have hst:=Ka (xs:=o) (i:=i) (v:=(xs.getD i 0-c-ys.getD i 0) % 4294967296) (by omega);by_cases hy2:i<ys.length
  ·have hyi:=J6 (xs:=ys) (i:=i) hy2;have eW:u32.wrap (u64.wrap (u64.wrap (u64.wrap (xs.getD i 0)-c)-u64.wrap (ys.getD i 0)))=(xs.getD i 0-c-ys.getD i 0) % 4294967296:=by rw[Wj,Qw,Qw,Qw,Qw];omega
   have eC:Int.fdiv (u64.wrap (u64.wrap (u64.wrap (xs.getD i 0)-c)-u64.wrap (ys.getD i 0))) (2^(min (Int.toNat 63) (IntKind.bits .u64)))=(-((xs.getD i 0-c-ys.getD i 0) / 4294967296)):=by
    show Int.fdiv _ 9223372036854775808=_;rw[Int.fdiv_eq_ediv_of_nonneg _ (by omega),Qw,Qw,Qw,Qw];omega
   have k:=Zy9 xs.length (lm xs) ys.length (lm ys) n (lm o) c (xs.length:Int) (i:Int) (lm (o.set i ((xs.getD i 0-c-ys.getD i 0) % 4294967296))) (xs.getD i 0) (ys.getD i 0)
    (by simp;omega) (by simp;omega) (by omega) (by rw[Int.toNat_natCast];exact hxi) (by omega) (by rw[Int.toNat_natCast];exact hyi) (by omega) (by rw[Int.toNat_natCast,eW];exact hst)
   rw[eC,ei] at k;exact Za.loop k (ih (i+1) _ _ (by omega) (by simpa using hlo) (Q4 hu (by omega)) (by omega))
  ·have hy0:=Qo (xs:=ys) (i:=i) (by omega);have eW:u32.wrap (u64.wrap (u64.wrap (xs.getD i 0)-c))=(xs.getD i 0-c-ys.getD i 0) % 4294967296:=by rw[Wj,Qw,Qw];omega
   have eC:Int.fdiv (u64.wrap (u64.wrap (xs.getD i 0)-c)) (2^(min (Int.toNat 63) (IntKind.bits .u64)))=(-((xs.getD i 0-c-ys.getD i 0) / 4294967296)):=by
    show Int.fdiv _ 9223372036854775808=_;rw[Int.fdiv_eq_ediv_of_nonneg _ (by omega),Qw,Qw];omega
   have k:=Zy8 xs.length (lm xs) ys.length (lm ys) n (lm o) c (xs.length:Int) (i:Int) (lm (o.set i ((xs.getD i 0-c-ys.getD i 0) % 4294967296))) (xs.getD i 0)
    (by simp;omega) (by simp;omega) (by omega) (by rw[Int.toNat_natCast];exact hxi) (by omega) (by rw[Int.toNat_natCast,eW];exact hst)
   rw[eC,ei] at k;exact Za.loop k (ih (i+1) _ _ (by omega) (by simpa using hlo) (Q4 hu (by omega)) (by omega))
theorem Zd9 (xs ys o:List Int) (c:Int) (h:(decide ((xs.length:Int)<(ys.length:Int)))=true) (hmk:0<=i64.wrap ((ys.length:Int)+1)/\i64.wrap ((ys.length:Int)+1)<=1048576) (hl:Za Yir (.loop R8) (F4 ys.length (lm ys) xs.length (lm xs) (Int.toNat (i64.wrap ((ys.length:Int)+1))) (Ju [.int .u32 0] (Int.toNat (i64.wrap ((ys.length:Int)+1)))) 0 (ys.length:Int) 0) (.exit 0) (F4 ys.length (lm ys) xs.length (lm xs) (Int.toNat (i64.wrap ((ys.length:Int)+1))) (lm o) c (ys.length:Int) (ys.length:Int))) (hix:0<=(ys.length:Int)/\(ys.length:Int)<(((Int.toNat (i64.wrap ((ys.length:Int)+1))):Nat):Int)) (hst:X9 (lm o) (Int.toNat (ys.length:Int)*1) [.int .u32 (u32.wrap c)]=some (lm (o.set ys.length c))):Zc Yir 178 [.sl xs.length (lm xs),.sl ys.length (lm ys)] (.fresh 1 (Int.toNat (i64.wrap ((ys.length:Int)+1))) (lm (o.set ys.length c))):=Zc.of_bodyW (fn:=Zeo) (s:=(.val (.sl ys.length (lm ys))::(.val (.sl xs.length (lm xs))::(dds 2 (.own 1 (Int.toNat (i64.wrap ((ys.length:Int)+1))) (lm (o.set ys.length c))::(dds 1 (.val (.int .u64 c)::(dds 14 (.val (.int .i64 (ys.length:Int))::(.val (.int .i64 (ys.length:Int))::(dds 28 (.dup 5::(.val (.sl ys.length (lm ys))::(.val (.int .i64 (ys.length:Int))::(.val (.int .u64 c)::(.val (.int .u32 (u32.wrap c))::(.ptr 5 (Int.toNat (ys.length:Int)*1)::(dds 1 [])))))))))))))))))) (ex := .ret) rfl rfl (Za.seq (Za.go (t:=(vl xs::(vl ys::(dds 2 (.own 1 0 []::(dds 53 [])))))) Zw 300 [] [0,1,4] a0) (Za.seq (Za.go (t:=(vl ys::(vl xs::(dds 2 (.own 1 0 []::(dds 4 (vl xs::(vi (xs.length:Int)::(vl ys::(vi (ys.length:Int)::(.val (.bool (decide ((xs.length:Int)<(ys.length:Int))))::(vl ys::(vl xs::(dds 42 [])))))))))))))) Zw 300 [.b true] [0,1,4,9,10,11,12,13,14,15] (ac (show (decide ((xs.length:Int)<(ys.length:Int)))=true from h) a0)) (Za.seq (Za.go (t:=(vl ys::(vl xs::(dds 2 (.own 1 0 []::(.own 1 (Int.toNat (i64.wrap ((ys.length:Int)+1))) (Ju [.int .u32 0] (Int.toNat (i64.wrap ((ys.length:Int)+1))))::(dds 3 (vl xs::(vi (xs.length:Int)::(vl ys::(vi (ys.length:Int)::(.val (.bool (decide ((xs.length:Int)<(ys.length:Int))))::(vl ys::(vl xs::(vl ys::(vi (ys.length:Int)::(vi (i64.wrap ((ys.length:Int)+1))::(dds 39 [])))))))))))))))))) Zw 300 [] [0,1,4,5,9,10,11,12,13,14,15,16,17,18] (ac (show 0<=(i64.wrap ((ys.length:Int)+1))/\(i64.wrap ((ys.length:Int)+1))<=1048576 from hmk) a0)) (Za.seq (Za.go (t:=(vl ys::(vl xs::(dds 2 (.own 1 0 []::(.own 1 (Int.toNat (i64.wrap ((ys.length:Int)+1))) (Ju [.int .u32 0] (Int.toNat (i64.wrap ((ys.length:Int)+1))))::(.val (.int .u64 0)::(dds 2 (vl xs::(vi (xs.length:Int)::(vl ys::(vi (ys.length:Int)::(.val (.bool (decide ((xs.length:Int)<(ys.length:Int))))::(vl ys::(vl xs::(vl ys::(vi (ys.length:Int)::(vi (i64.wrap ((ys.length:Int)+1))::(dds 39 []))))))))))))))))))) Zw 300 [] [0,1,4,5,6,9,10,11,12,13,14,15,16,17,18] a0) (Za.seq (Za.seq (Za.go (t:=(vl ys::(vl xs::(dds 2 (.own 1 0 []::(.own 1 (Int.toNat (i64.wrap ((ys.length:Int)+1))) (Ju [.int .u32 0] (Int.toNat (i64.wrap ((ys.length:Int)+1))))::(.val (.int .u64 0)::(dds 14 (vi (ys.length:Int)::(vi 0::(dds 35 []))))))))))) Zw 300 [] [0,1,4,5,6,21,22] a0) (Za.block hl)) (Za.go (t:=(vl ys::(vl xs::(dds 2 (.own 1 (Int.toNat (i64.wrap ((ys.length:Int)+1))) (lm (o.set ys.length c))::(dds 1 (.val (.int .u64 c)::(dds 14 (vi (ys.length:Int)::(vi (ys.length:Int)::(dds 28 (.dup 5::(vl ys::(vi (ys.length:Int)::(.val (.int .u64 c)::(.val (.int .u32 (u32.wrap c))::(.ptr 5 (Int.toNat (ys.length:Int)*1)::(dds 1 [])))))))))))))))))) (ex := .ret) Zw 300 [.l (lm (o.set ys.length c))] [0,1,4,6,21,22,51,52,53,54,55,56] (ac (show 0<=(ys.length:Int)/\(ys.length:Int)<(((Int.toNat (i64.wrap ((ys.length:Int)+1))):Nat):Int) from hix) (ac (show X9 (lm o) (Int.toNat (ys.length:Int)*1) [.int .u32 (u32.wrap c)]=some (lm (o.set ys.length c)) from hst) a0)))))))) nofun rfl
theorem Zea (xs ys o:List Int) (c:Int) (h:(decide ((xs.length:Int)<(ys.length:Int)))=false) (hmk:0<=i64.wrap ((xs.length:Int)+1)/\i64.wrap ((xs.length:Int)+1)<=1048576) (hl:Za Yir (.loop R8) (F4 xs.length (lm xs) ys.length (lm ys) (Int.toNat (i64.wrap ((xs.length:Int)+1))) (Ju [.int .u32 0] (Int.toNat (i64.wrap ((xs.length:Int)+1)))) 0 (xs.length:Int) 0) (.exit 0) (F4 xs.length (lm xs) ys.length (lm ys) (Int.toNat (i64.wrap ((xs.length:Int)+1))) (lm o) c (xs.length:Int) (xs.length:Int))) (hix:0<=(xs.length:Int)/\(xs.length:Int)<(((Int.toNat (i64.wrap ((xs.length:Int)+1))):Nat):Int)) (hst:X9 (lm o) (Int.toNat (xs.length:Int)*1) [.int .u32 (u32.wrap c)]=some (lm (o.set xs.length c))):Zc Yir 178 [.sl xs.length (lm xs),.sl ys.length (lm ys)] (.fresh 1 (Int.toNat (i64.wrap ((xs.length:Int)+1))) (lm (o.set xs.length c))):=Zc.of_bodyW (fn:=Zeo) (s:=(.val (.sl xs.length (lm xs))::(.val (.sl ys.length (lm ys))::(dds 2 (.own 1 (Int.toNat (i64.wrap ((xs.length:Int)+1))) (lm (o.set xs.length c))::(dds 1 (.val (.int .u64 c)::(dds 14 (.val (.int .i64 (xs.length:Int))::(.val (.int .i64 (xs.length:Int))::(dds 28 (.dup 5::(.val (.sl xs.length (lm xs))::(.val (.int .i64 (xs.length:Int))::(.val (.int .u64 c)::(.val (.int .u32 (u32.wrap c))::(.ptr 5 (Int.toNat (xs.length:Int)*1)::(dds 1 [])))))))))))))))))) (ex := .ret) rfl rfl (Za.seq (Za.go (t:=(vl xs::(vl ys::(dds 2 (.own 1 0 []::(dds 53 [])))))) Zw 300 [] [0,1,4] a0) (Za.seq (Za.go (t:=(vl xs::(vl ys::(dds 2 (.own 1 0 []::(dds 4 (vl xs::(vi (xs.length:Int)::(vl ys::(vi (ys.length:Int)::(.val (.bool (decide ((xs.length:Int)<(ys.length:Int))))::(dds 44 [])))))))))))) Zw 300 [.b false] [0,1,4,9,10,11,12,13] (ac (show (decide ((xs.length:Int)<(ys.length:Int)))=false from h) a0)) (Za.seq (Za.go (t:=(vl xs::(vl ys::(dds 2 (.own 1 0 []::(.own 1 (Int.toNat (i64.wrap ((xs.length:Int)+1))) (Ju [.int .u32 0] (Int.toNat (i64.wrap ((xs.length:Int)+1))))::(dds 3 (vl xs::(vi (xs.length:Int)::(vl ys::(vi (ys.length:Int)::(.val (.bool (decide ((xs.length:Int)<(ys.length:Int))))::(dds 2 (vl xs::(vi (xs.length:Int)::(vi (i64.wrap ((xs.length:Int)+1))::(dds 39 []))))))))))))))))) Zw 300 [] [0,1,4,5,9,10,11,12,13,16,17,18] (ac (show 0<=(i64.wrap ((xs.length:Int)+1))/\(i64.wrap ((xs.length:Int)+1))<=1048576 from hmk) a0)) (Za.seq (Za.go (t:=(vl xs::(vl ys::(dds 2 (.own 1 0 []::(.own 1 (Int.toNat (i64.wrap ((xs.length:Int)+1))) (Ju [.int .u32 0] (Int.toNat (i64.wrap ((xs.length:Int)+1))))::(.val (.int .u64 0)::(dds 2 (vl xs::(vi (xs.length:Int)::(vl ys::(vi (ys.length:Int)::(.val (.bool (decide ((xs.length:Int)<(ys.length:Int))))::(dds 2 (vl xs::(vi (xs.length:Int)::(vi (i64.wrap ((xs.length:Int)+1))::(dds 39 [])))))))))))))))))) Zw 300 [] [0,1,4,5,6,9,10,11,12,13,16,17,18] a0) (Za.seq (Za.seq (Za.go (t:=(vl xs::(vl ys::(dds 2 (.own 1 0 []::(.own 1 (Int.toNat (i64.wrap ((xs.length:Int)+1))) (Ju [.int .u32 0] (Int.toNat (i64.wrap ((xs.length:Int)+1))))::(.val (.int .u64 0)::(dds 14 (vi (xs.length:Int)::(vi 0::(dds 35 []))))))))))) Zw 300 [] [0,1,4,5,6,21,22] a0) (Za.block hl)) (Za.go (t:=(vl xs::(vl ys::(dds 2 (.own 1 (Int.toNat (i64.wrap ((xs.length:Int)+1))) (lm (o.set xs.length c))::(dds 1 (.val (.int .u64 c)::(dds 14 (vi (xs.length:Int)::(vi (xs.length:Int)::(dds 28 (.dup 5::(vl xs::(vi (xs.length:Int)::(.val (.int .u64 c)::(.val (.int .u32 (u32.wrap c))::(.ptr 5 (Int.toNat (xs.length:Int)*1)::(dds 1 [])))))))))))))))))) (ex := .ret) Zw 300 [.l (lm (o.set xs.length c))] [0,1,4,6,21,22,51,52,53,54,55,56] (ac (show 0<=(xs.length:Int)/\(xs.length:Int)<(((Int.toNat (i64.wrap ((xs.length:Int)+1))):Nat):Int) from hix) (ac (show X9 (lm o) (Int.toNat (xs.length:Int)*1) [.int .u32 (u32.wrap c)]=some (lm (o.set xs.length c)) from hst) a0)))))))) nofun rfl
theorem Bj {xs ys:List Int} (hx:U32 xs) (hy:U32 ys) (hl:ys.length<=xs.length) (hN:xs.length<1048576):∃ o c,(o:List Int).length=xs.length+1/\U32 (o.set xs.length c)/\Zj (o.set xs.length c)=Zj xs+Zj ys/\(0<=c/\c<=1) /\
  Za Yir (.loop R8) (F4 xs.length (lm xs) ys.length (lm ys) (xs.length+1) (lm (List.replicate (xs.length+1) 0)) 0 (xs.length:Int) 0) (.exit 0) (F4 xs.length (lm xs) ys.length (lm ys) (xs.length+1) (lm o) c (xs.length:Int) (xs.length:Int)):=by
 have hg:=Zqh xs ys hx hy (xs.length+1) (by omega) (by omega) xs.length 0 (List.replicate (xs.length+1) 0) 0 (by omega) (by simp) (Xk _) (by omega);cases e:F3 xs ys xs.length 0 (List.replicate (xs.length+1) 0) 0 with
 | mk o c =>
  obtain⟨g1,g2,g3,g4,g5⟩:=Zh6 hx hy hl o c e;rw[e] at hg;exact⟨o,c,g1,g4,g5,g3,hg⟩
theorem Re {xs ys:List Int} (hx:U32 xs) (hy:U32 ys) (h1:xs.length<1048576) (h2:ys.length<1048576):∃ zs,U32 zs/\Zj zs=Zj xs+Zj ys/\zs.length<=1048576/\Zc Yir 178 [.sl xs.length (lm xs),.sl ys.length (lm ys)] (.fresh 1 zs.length (lm zs)):=by
 by_cases hlt:xs.length<ys.length
 ·obtain⟨o,c,g1,g2,g3,g4,g5⟩:=Bj hy hx (by omega) h2;have e1:i64.wrap ((ys.length:Int)+1)=((ys.length+1:Nat):Int):=by rw[w64 (by omega) (by omega)];omega
  have e2:Int.toNat (i64.wrap ((ys.length:Int)+1))=ys.length+1:=by rw[e1,Int.toNat_natCast]
  have hst:=Ka (xs:=o) (i:=ys.length) (v:=c) (by omega);have h:=Zd9 xs ys o c (by simp;omega) (by rw[e1];omega) (by rw[e2,Xz];exact g5) (by rw[e2];omega) (by rw[Int.toNat_natCast,Wj,Int.emod_eq_of_lt (by omega) (by omega)];exact hst);refine⟨o.set ys.length c,g2,by rw[g3,Int.add_comm],by simp;omega,?_⟩;rw[e2] at h;rw[List.length_set,g1];exact h
 ·obtain⟨o,c,g1,g2,g3,g4,g5⟩:=Bj hx hy (by omega) h1;have e1:i64.wrap ((xs.length:Int)+1)=((xs.length+1:Nat):Int):=by rw[w64 (by omega) (by omega)];omega
  have e2:Int.toNat (i64.wrap ((xs.length:Int)+1))=xs.length+1:=by rw[e1,Int.toNat_natCast]
  have hst:=Ka (xs:=o) (i:=xs.length) (v:=c) (by omega);have h:=Zea xs ys o c (by simp;omega) (by rw[e1];omega) (by rw[e2,Xz];exact g5) (by rw[e2];omega) (by rw[Int.toNat_natCast,Wj,Int.emod_eq_of_lt (by omega) (by omega)];exact hst);refine⟨o.set xs.length c,g2,g3,by simp;omega,?_⟩;rw[e2] at h;rw[List.length_set,g1];exact h
theorem Zxq (xs ys o:List Int) (c:Int) (hmk:0<=(xs.length:Int)/\(xs.length:Int)<=1048576) (hl:Za Yir (.loop Ze4) (Nm xs.length (lm xs) ys.length (lm ys) (Int.toNat (xs.length:Int)) (Ju [.int .u32 0] (Int.toNat (xs.length:Int))) 0 (xs.length:Int) 0) (.exit 0) (Nm xs.length (lm xs) ys.length (lm ys) (Int.toNat (xs.length:Int)) (lm o) c (xs.length:Int) (xs.length:Int))):Zc Yir 179 [.sl xs.length (lm xs),.sl ys.length (lm ys)] (.fresh 1 (Int.toNat (xs.length:Int)) (lm o)):=Zc.of_bodyW (fn:=Zku) (s:=(.val (.sl xs.length (lm xs))::(.val (.sl ys.length (lm ys))::(dds 2 (.own 1 (Int.toNat (xs.length:Int)) (lm o)::(dds 1 (.val (.int .u64 c)::(dds 6 (.val (.int .i64 (xs.length:Int))::(.val (.int .i64 (xs.length:Int))::(dds 29 []))))))))))) (ex := .ret) rfl rfl (Za.seq (Za.go (t:=(vl xs::(vl ys::(dds 2 (.own 1 0 []::(dds 39 [])))))) Zw 300 [] [0,1,4] a0) (Za.seq (Za.go (t:=(vl xs::(vl ys::(dds 2 (.own 1 0 []::(.own 1 (Int.toNat (xs.length:Int)) (Ju [.int .u32 0] (Int.toNat (xs.length:Int)))::(dds 3 (vl xs::(vi (xs.length:Int)::(dds 33 [])))))))))) Zw 300 [] [0,1,4,5,9,10] (ac (show 0<=(xs.length:Int)/\(xs.length:Int)<=1048576 from hmk) a0)) (Za.seq (Za.go (t:=(vl xs::(vl ys::(dds 2 (.own 1 0 []::(.own 1 (Int.toNat (xs.length:Int)) (Ju [.int .u32 0] (Int.toNat (xs.length:Int)))::(.val (.int .u64 0)::(dds 2 (vl xs::(vi (xs.length:Int)::(dds 33 []))))))))))) Zw 300 [] [0,1,4,5,6,9,10] a0) (Za.seq (Za.seq (Za.go (t:=(vl xs::(vl ys::(dds 2 (.own 1 0 []::(.own 1 (Int.toNat (xs.length:Int)) (Ju [.int .u32 0] (Int.toNat (xs.length:Int)))::(.val (.int .u64 0)::(dds 6 (vi (xs.length:Int)::(vi 0::(dds 29 []))))))))))) Zw 300 [] [0,1,4,5,6,13,14] a0) (Za.block hl)) (Za.go (t:=(vl xs::(vl ys::(dds 2 (.own 1 (Int.toNat (xs.length:Int)) (lm o)::(dds 1 (.val (.int .u64 c)::(dds 6 (vi (xs.length:Int)::(vi (xs.length:Int)::(dds 29 []))))))))))) (ex := .ret) Zw 300 [] [0,1,4,6,13,14] a0))))) nofun rfl
theorem D7 {xs ys:List Int} (hx:U32 xs) (hy:U32 ys) (hl:ys.length<=xs.length) (hv:Zj ys<=Zj xs) (hN:xs.length<=1048576):∃ zs,U32 zs/\Zj zs=Zj xs-Zj ys/\zs.length<=1048576/\Zc Yir 179 [.sl xs.length (lm xs),.sl ys.length (lm ys)] (.fresh 1 zs.length (lm zs)):=by
 have hg:=Zqg xs ys hx hy xs.length hN (Nat.le_refl _) xs.length 0 (List.replicate xs.length 0) 0 (by omega) (by simp) (Xk _) (by omega);cases e:Dc xs ys xs.length 0 (List.replicate xs.length 0) 0 with
 | mk o c =>
  obtain⟨g1,g2,g3⟩:=Zfj hx hy hl hv o c e;rw[e] at hg;have h:=Zxq xs ys o c (by omega) (by rw[Int.toNat_natCast,Xz];exact hg);rw[Int.toNat_natCast] at h;refine⟨o,g2,g3,by omega,?_⟩;rw[g1];exact h
theorem Ziq (na:Bool) (p:Nat) (nb:Bool) (q:Nat) (zs:List Int) (r:Int) (h:(na==nb)=true) (h1:Zc Yir 178 [.sl (Zb p).length (lm (Zb p)),.sl (Zb q).length (lm (Zb q))] (.fresh 1 zs.length (lm zs))) (h2:Zc Yir 152 [.bool na,.sl zs.length (lm zs)] (.agg [.bool (decide (r<0)),.sl ((Zb (Int.natAbs r)).length) (lm (Zb (Int.natAbs r)))])):Zc Yir 154 [.bool na,.sl ((Zb p).length) (lm (Zb p)),.bool nb,.sl ((Zb q).length) (lm (Zb q))] (.agg [.bool (decide (r<0)),.sl ((Zb (Int.natAbs r)).length) (lm (Zb (Int.natAbs r)))]):=Zc.script (ps:=[(na==nb)=true,Zc Yir 178 [.sl ((Zb p).length) (lm (Zb p)),.sl ((Zb q).length) (lm (Zb q))] (.fresh 1 zs.length (lm zs)),Zc Yir 152 [.bool na,.sl zs.length (lm zs)] (.agg [.bool (decide (r<0)),.sl ((Zb (Int.natAbs r)).length) (lm (Zb (Int.natAbs r)))])]) Zw rfl 300 rfl [.b true,.r (.fresh 1 zs.length (lm zs)),.r (.agg [.bool (decide (r<0)),.sl ((Zb (Int.natAbs r)).length) (lm (Zb (Int.natAbs r)))])] (by kernel_rfl) ⟨h,h1,h2,trivial⟩
theorem Zip (na:Bool) (p:Nat) (nb:Bool) (q:Nat) (zs:List Int) (r:Int) (k:Int) (h:(na==nb)=false) (h3:Zc Yir 151 [.sl (Zb p).length (lm (Zb p)),.sl (Zb q).length (lm (Zb q))] (.int .i64 k)) (hk:(decide (k>=0))=true) (h1:Zc Yir 179 [.sl (Zb p).length (lm (Zb p)),.sl (Zb q).length (lm (Zb q))] (.fresh 1 zs.length (lm zs))) (h2:Zc Yir 152 [.bool na,.sl zs.length (lm zs)] (.agg [.bool (decide (r<0)),.sl ((Zb (Int.natAbs r)).length) (lm (Zb (Int.natAbs r)))])):Zc Yir 154 [.bool na,.sl ((Zb p).length) (lm (Zb p)),.bool nb,.sl ((Zb q).length) (lm (Zb q))] (.agg [.bool (decide (r<0)),.sl ((Zb (Int.natAbs r)).length) (lm (Zb (Int.natAbs r)))]):=Zc.script (ps:=[(na==nb)=false,Zc Yir 151 [.sl ((Zb p).length) (lm (Zb p)),.sl ((Zb q).length) (lm (Zb q))] (.int .i64 k),(decide (k>=0))=true,Zc Yir 179 [.sl ((Zb p).length) (lm (Zb p)),.sl ((Zb q).length) (lm (Zb q))] (.fresh 1 zs.length (lm zs)),Zc Yir 152 [.bool na,.sl zs.length (lm zs)] (.agg [.bool (decide (r<0)),.sl ((Zb (Int.natAbs r)).length) (lm (Zb (Int.natAbs r)))])]) Zw rfl 300 rfl [.b false,.r (.int .i64 k),.b true,.r (.fresh 1 zs.length (lm zs)),.r (.agg [.bool (decide (r<0)),.sl ((Zb (Int.natAbs r)).length) (lm (Zb (Int.natAbs r)))])] (by kernel_rfl) ⟨h,h3,hk,h1,h2,trivial⟩
theorem Zio (na:Bool) (p:Nat) (nb:Bool) (q:Nat) (zs:List Int) (r:Int) (k:Int) (h:(na==nb)=false) (h3:Zc Yir 151 [.sl (Zb p).length (lm (Zb p)),.sl (Zb q).length (lm (Zb q))] (.int .i64 k)) (hk:(decide (k>=0))=false) (h1:Zc Yir 179 [.sl (Zb q).length (lm (Zb q)),.sl (Zb p).length (lm (Zb p))] (.fresh 1 zs.length (lm zs))) (h2:Zc Yir 152 [.bool nb,.sl zs.length (lm zs)] (.agg [.bool (decide (r<0)),.sl ((Zb (Int.natAbs r)).length) (lm (Zb (Int.natAbs r)))])):Zc Yir 154 [.bool na,.sl ((Zb p).length) (lm (Zb p)),.bool nb,.sl ((Zb q).length) (lm (Zb q))] (.agg [.bool (decide (r<0)),.sl ((Zb (Int.natAbs r)).length) (lm (Zb (Int.natAbs r)))]):=Zc.script (ps:=[(na==nb)=false,Zc Yir 151 [.sl ((Zb p).length) (lm (Zb p)),.sl ((Zb q).length) (lm (Zb q))] (.int .i64 k),(decide (k>=0))=false,Zc Yir 179 [.sl ((Zb q).length) (lm (Zb q)),.sl ((Zb p).length) (lm (Zb p))] (.fresh 1 zs.length (lm zs)),Zc Yir 152 [.bool nb,.sl zs.length (lm zs)] (.agg [.bool (decide (r<0)),.sl ((Zb (Int.natAbs r)).length) (lm (Zb (Int.natAbs r)))])]) Zw rfl 300 rfl [.b false,.r (.int .i64 k),.b false,.r (.fresh 1 zs.length (lm zs)),.r (.agg [.bool (decide (r<0)),.sl ((Zb (Int.natAbs r)).length) (lm (Zb (Int.natAbs r)))])] (by kernel_rfl) ⟨h,h3,hk,h1,h2,trivial⟩
theorem Zfi {na nb:Bool} {p q:Nat} (hp:(Zb p).length<1048576) (hq:(Zb q).length<1048576):Zc Yir 154 [.bool na,.sl (Zb p).length (lm (Zb p)),.bool nb,.sl (Zb q).length (lm (Zb q))] (Zi (rv na (Zb p)+rv nb (Zb q))):=by
 have up:=Qk p;have uq:=Qk q;by_cases e:na=nb
 ·subst e;obtain⟨zs,z1,z2,z3,z4⟩:=Re up uq hp hq;have h2:=Xp (neg:=na) z1 z3;have ev:rv na zs=rv na (Zb p)+rv na (Zb q):=by
   unfold rv;rw[z2];cases na <;> simp <;> omega
  rw[ev] at h2;exact Ziq na p na q zs _ (by simp) z4 h2
 ·have hne:(na==nb)=false:=by simpa using e
  have hc:=Wg (Qh p) (Qh q) (by omega);have hnb:nb = !na:=by cases na <;> cases nb <;> simp_all
  have lenle:∀ {a b:Nat},Zj (Zb a)<=Zj (Zb b)->(Zb a).length<=(Zb b).length:=by
   intro a b h;rcases Nat.lt_or_ge (Zb b).length (Zb a).length with g | g
   ·have:=Kl (Qh b) (Qh a) g;omega
   ·exact g
  by_cases hk:Zj (Zb q)<=Zj (Zb p)
  ·obtain⟨zs,z1,z2,z3,z4⟩:=D7 up uq (lenle hk) hk (by omega);have h2:=Xp (neg:=na) z1 z3;have ev:rv na zs=rv na (Zb p)+rv nb (Zb q):=by
    subst hnb;unfold rv;rw[z2];cases na <;> simp <;> omega
   rw[ev] at h2;refine Zip na p nb q zs _ _ hne hc ?_ z4 h2;unfold U0;rw[if_neg (by omega)];split <;> rfl
  ·obtain⟨zs,z1,z2,z3,z4⟩:=D7 uq up (lenle (by omega)) (by omega) (by omega);have h2:=Xp (neg:=nb) z1 z3;have ev:rv nb zs=rv na (Zb p)+rv nb (Zb q):=by
    subst hnb;unfold rv;rw[z2];cases na <;> simp <;> omega
   rw[ev] at h2;refine Zio na p nb q zs _ _ hne hc ?_ z4 h2;unfold U0;rw[if_pos (by omega)];rfl
theorem Zyh (na:Bool) (xs:List Int) (nb:Bool) (ys:List Int) (a b r:Int) (h1:Zc Yir 143 [.agg [.bool na,.sl xs.length (lm xs)]] (.tup [.bool (decide (a<0)),.sl (Zb (Int.natAbs a)).length (lm (Zb (Int.natAbs a)))])) (h2:Zc Yir 143 [.agg [.bool nb,.sl ys.length (lm ys)]] (.tup [.bool (decide (b<0)),.sl (Zb (Int.natAbs b)).length (lm (Zb (Int.natAbs b)))])) (h3:Zc Yir 154 [.bool (decide (a<0)),.sl (Zb (Int.natAbs a)).length (lm (Zb (Int.natAbs a))),.bool (decide (b<0)),.sl (Zb (Int.natAbs b)).length (lm (Zb (Int.natAbs b)))] (.agg [.bool (decide (r<0)),.sl ((Zb (Int.natAbs r)).length) (lm (Zb (Int.natAbs r)))])):Zc Yir 111 [.agg [.bool na,.sl xs.length (lm xs)],.agg [.bool nb,.sl ys.length (lm ys)]] (.agg [.bool (decide (r<0)),.sl ((Zb (Int.natAbs r)).length) (lm (Zb (Int.natAbs r)))]):=Zc.script (ps:=[Zc Yir 143 [.agg [.bool na,.sl xs.length (lm xs)]] (.tup [.bool (decide (a<0)),.sl ((Zb (Int.natAbs a)).length) (lm (Zb (Int.natAbs a)))]),Zc Yir 143 [.agg [.bool nb,.sl ys.length (lm ys)]] (.tup [.bool (decide (b<0)),.sl ((Zb (Int.natAbs b)).length) (lm (Zb (Int.natAbs b)))]),Zc Yir 154 [.bool (decide (a<0)),.sl ((Zb (Int.natAbs a)).length) (lm (Zb (Int.natAbs a))),.bool (decide (b<0)),.sl ((Zb (Int.natAbs b)).length) (lm (Zb (Int.natAbs b)))] (.agg [.bool (decide (r<0)),.sl ((Zb (Int.natAbs r)).length) (lm (Zb (Int.natAbs r)))])]) Zw rfl 300 rfl [.r (.tup [.bool (decide (a<0)),.sl ((Zb (Int.natAbs a)).length) (lm (Zb (Int.natAbs a)))]),.r (.tup [.bool (decide (b<0)),.sl ((Zb (Int.natAbs b)).length) (lm (Zb (Int.natAbs b)))]),.r (.agg [.bool (decide (r<0)),.sl ((Zb (Int.natAbs r)).length) (lm (Zb (Int.natAbs r)))])] (by kernel_rfl) ⟨h1,h2,h3,trivial⟩
theorem Ab {na nb:Bool} {xs ys:List Int} (hx:U32 xs) (hy:U32 ys) (h1:xs.length<1048576) (h2:ys.length<1048576):Zc Yir 111 [.agg [.bool na,.sl xs.length (lm xs)],.agg [.bool nb,.sl ys.length (lm ys)]] (Zi (rv na xs+rv nb ys)):=by
 have l1:=Nat.lt_of_le_of_lt (Ul (neg:=na) hx) h1;have l2:=Nat.lt_of_le_of_lt (Ul (neg:=nb) hy) h2;have h3:=Zfi (na:=decide (rv na xs<0)) (nb:=decide (rv nb ys<0)) l1 l2;rw[Vh,Vh] at h3;exact Zyh na xs nb ys (rv na xs) (rv nb ys) _ (Jl hx (by omega)) (Jl hy (by omega)) h3
theorem Zmq {a b:Int} (h1:(Zb a.natAbs).length<1048576) (h2:(Zb b.natAbs).length<1048576):Zc Yir 111 [Zi a,Zi b] (Zi (a+b)):=by
 have:=Ab (na:=decide (a<0)) (nb:=decide (b<0)) (Qk a.natAbs) (Qk b.natAbs) h1 h2;rwa [Vh,Vh] at this
theorem Zx7 (na:Bool) (xs:List Int) (nb:Bool) (ys:List Int) (a b r:Int) (h1:Zc Yir 143 [.agg [.bool na,.sl xs.length (lm xs)]] (.tup [.bool (decide (a<0)),.sl (Zb (Int.natAbs a)).length (lm (Zb (Int.natAbs a)))])) (h2:Zc Yir 143 [.agg [.bool nb,.sl ys.length (lm ys)]] (.tup [.bool (decide (b<0)),.sl (Zb (Int.natAbs b)).length (lm (Zb (Int.natAbs b)))])) (h3:Zc Yir 154 [.bool (decide (a<0)),.sl (Zb (Int.natAbs a)).length (lm (Zb (Int.natAbs a))),.bool (!(decide (b<0))),.sl (Zb (Int.natAbs b)).length (lm (Zb (Int.natAbs b)))] (.agg [.bool (decide (r<0)),.sl ((Zb (Int.natAbs r)).length) (lm (Zb (Int.natAbs r)))])):Zc Yir 127 [.agg [.bool na,.sl xs.length (lm xs)],.agg [.bool nb,.sl ys.length (lm ys)]] (.agg [.bool (decide (r<0)),.sl ((Zb (Int.natAbs r)).length) (lm (Zb (Int.natAbs r)))]):=Zc.script (ps:=[Zc Yir 143 [.agg [.bool na,.sl xs.length (lm xs)]] (.tup [.bool (decide (a<0)),.sl ((Zb (Int.natAbs a)).length) (lm (Zb (Int.natAbs a)))]),Zc Yir 143 [.agg [.bool nb,.sl ys.length (lm ys)]] (.tup [.bool (decide (b<0)),.sl ((Zb (Int.natAbs b)).length) (lm (Zb (Int.natAbs b)))]),Zc Yir 154 [.bool (decide (a<0)),.sl ((Zb (Int.natAbs a)).length) (lm (Zb (Int.natAbs a))),.bool (!(decide (b<0))),.sl ((Zb (Int.natAbs b)).length) (lm (Zb (Int.natAbs b)))] (.agg [.bool (decide (r<0)),.sl ((Zb (Int.natAbs r)).length) (lm (Zb (Int.natAbs r)))])]) Zw rfl 300 rfl [.r (.tup [.bool (decide (a<0)),.sl ((Zb (Int.natAbs a)).length) (lm (Zb (Int.natAbs a)))]),.r (.tup [.bool (decide (b<0)),.sl ((Zb (Int.natAbs b)).length) (lm (Zb (Int.natAbs b)))]),.r (.agg [.bool (decide (r<0)),.sl ((Zb (Int.natAbs r)).length) (lm (Zb (Int.natAbs r)))])] (by kernel_rfl) ⟨h1,h2,h3,trivial⟩
theorem Zmm {na nb:Bool} {xs ys:List Int} (hx:U32 xs) (hy:U32 ys) (h1:xs.length<1048576) (h2:ys.length<1048576):Zc Yir 127 [.agg [.bool na,.sl xs.length (lm xs)],.agg [.bool nb,.sl ys.length (lm ys)]] (Zi (rv na xs-rv nb ys)):=by
 have l1:=Nat.lt_of_le_of_lt (Ul (neg:=na) hx) h1;have l2:=Nat.lt_of_le_of_lt (Ul (neg:=nb) hy) h2;have h3:=Zfi (na:=decide (rv na xs<0)) (nb := !decide (rv nb ys<0)) l1 l2;rw[Vh,Zu0,<- Int.sub_eq_add_neg] at h3;exact Zx7 na xs nb ys (rv na xs) (rv nb ys) _ (Jl hx (by omega)) (Jl hy (by omega)) h3
def TWB:J8:=TWA
theorem Zs:Q9 Yir TWB:=Zw
end Go.Proofs.YtopjpgejefileaaGreat

namespace Go.Ai
open Go.IntKind (i64 u64 u32)
section
variable {prog:Nat->Option IFunc}
theorem Za.keep {c:ICode} {ex:Ex} {s t t':Zk} (ks:List Nat) (h:Za prog c s ex t) (e:Zg2 ks t=t'):Za prog c s ex t':=e ▸ Za.weak h (SLe.refl _) (Zb7 ks t)
theorem Za.upTo {c:ICode} {ex:Ex} {fin:Zk} (st:Nat->Zk) (n:Nat) (hex:ex ≠ .norm) (out:Za prog c (st n) ex fin):∀ i,i<=n->(∀ t,i<=t->t<n->Za prog c (st t) .norm (st (t+1)))->Za prog (.loop c) (st i) ex fin:=by
 intro i hi;obtain⟨r,hr⟩:∃ r,i+r=n:=⟨n-i,by omega⟩;induction r generalizing i with
 | zero =>
  intro _;have:i=n:=by omega
  subst this;exact Za.loop_out out hex
 | succ r ih =>
  intro hs;exact Za.loop (hs i (Nat.le_refl _) (by omega)) (ih (i+1) (by omega) (by omega) (fun t h1 h2=>hs t (by omega) h2))
theorem H0 (f:Nat->Bool) (m:Nat):∀ r i,i+r=m->(∀ j,i<=j->j<m->f j=false)\/∃ j,i<=j/\j<m/\f j=true/\∀ t,i<=t->t<j->f t=false:=by
 intro r;induction r with
 | zero=>intro i hi;left;intro j h1 h2;omega
 | succ r ih =>
  intro i hi;cases hf:f i with
  | true=>right;exact⟨i,Nat.le_refl _,by omega,hf,fun t h1 h2=>by omega⟩
  | false =>
   rcases ih (i+1) (by omega) with h | ⟨j,h1,h2,h3,h4⟩
   ·left;intro j h1 h2;by_cases e:j=i
    ·rw[e];exact hf
    ·exact h j (by omega) h2
   ·right;refine⟨j,by omega,h2,h3,fun t h5 h6 => ?_⟩;by_cases e:t=i
    ·rw[e];exact hf
    ·exact h4 t (by omega) h6
end
end Go.Ai

namespace Go.Ai
open Go.IntKind (i64 u64 u32)
theorem Ji (us:List Int) {j:Nat} (h:j<=us.length):Zj us=Zj (us.take j)+4294967296^j*Zj (us.drop j):=by
 have:=Uf (us.take j) (us.drop j);rw[List.take_append_drop,List.length_take,Nat.min_eq_left h] at this;exact this
theorem Zmt {us ws:List Int} {j:Nat} (hl:ws.length=us.length) (h:∀ t,t<j->ws.getD t 0=us.getD t 0):ws.take j=us.take j:=by
 apply List.ext_getElem?;intro t;rcases Nat.lt_or_ge t j with g | g
 ·rw[List.getElem?_take_of_lt g,List.getElem?_take_of_lt g];have:=h t g;rw[List.getD_eq_getElem?_getD,List.getD_eq_getElem?_getD] at this;rcases Nat.lt_or_ge t us.length with k | k
  ·rw[List.getElem?_eq_getElem k,List.getElem?_eq_getElem (by omega)] at this |-;simpa using this
  ·rw[List.getElem?_eq_none k,List.getElem?_eq_none (by omega)]
 ·rw[List.getElem?_eq_none (by simp;omega),List.getElem?_eq_none (by simp;omega)]
theorem Xy {us:List Int} (h:U32 us) (j:Nat):U32 (us.drop j):=fun x hx=>h x (List.mem_of_mem_drop hx)
theorem Jz {us:List Int} (h:U32 us) (j:Nat):U32 (us.take j):=fun x hx=>h x (List.mem_of_mem_take hx)
theorem Wz {us:List Int} (hu:U32 us) {n:Nat} {V:Int} (hV:V<=4294967296^n) (h:Zj us<V):Zj (us.drop n)=0:=by
 have h0:=Zv (Xy hu n);rcases Nat.lt_or_ge n us.length with g | g
 ·have e:=Ji us (Nat.le_of_lt g);have h1:=Zv (Jz hu n);have hp:=Qx n;apply Int.le_antisymm ?_ h0;apply Int.not_lt.1;intro hc;have:=Int.mul_le_mul_of_nonneg_left (show 1<=Zj (us.drop n) by omega) (show (0:Int)<=4294967296^n by omega);omega
 ·exact J0 g
theorem U6 {us:List Int} (hu:U32 us) (n:Nat):Zj (us.take n)<4294967296^n:=by
 have h:=J2 (Jz hu n);exact Int.lt_of_lt_of_le h (Um (by simp;omega))
end Go.Ai

namespace Go.Ai
open Go.IntKind (i64 u64 u32)
def F9 (g:Int) (vs:List Int) (j:Nat):Nat->Nat->List Int->Int->Int->List Int × Int × Int
 | 0,_,us,b,c=>(us,b,c)
 | r+1,i,us,b,c=>F9 g vs j r (i+1) (us.set (i+j) ((us.getD (i+j) 0-(g*vs.getD i 0+c) % 4294967296-b) % 4294967296))
   (if us.getD (i+j) 0-(g*vs.getD i 0+c) % 4294967296-b<0 then 1 else 0) ((g*vs.getD i 0+c) / 4294967296)
theorem Tk {g v c:Int} (hg:0<=g/\g<4294967296) (hv:0<=v/\v<4294967296) (hc:0<=c/\c<4294967296):0<=g*v+c/\g*v+c<18446744073709551616:=by
 have h1:=Int.mul_nonneg hg.1 hv.1;have h2:=Int.mul_le_mul (show g<=4294967295 by omega) (show v<=4294967295 by omega) hv.1 (by omega);omega
theorem Tl {g:Int} {vs:List Int} {j:Nat} (hg:0<=g/\g<4294967296) (hv:U32 vs):∀ (r i:Nat) (us:List Int) (b c:Int),r+i=vs.length->j+vs.length<=us.length->U32 us->0<=b/\b<=1->0<=c/\c<4294967296 ->
  (F9 g vs j r i us b c).1.length=us.length/\U32 (F9 g vs j r i us b c).1/\(0<=(F9 g vs j r i us b c).2.1/\(F9 g vs j r i us b c).2.1<=1)/\(0<=(F9 g vs j r i us b c).2.2/\(F9 g vs j r i us b c).2.2<4294967296) /\
  Zj (F9 g vs j r i us b c).1=Zj us-4294967296^(i+j)*(g*Zj (vs.drop i)+b+c)+4294967296^(j+vs.length)*((F9 g vs j r i us b c).2.1+(F9 g vs j r i us b c).2.2) /\
  ∀ t,t<i+j\/j+vs.length<=t->(F9 g vs j r i us b c).1.getD t 0=us.getD t 0:=by
 intro r;induction r with
 | zero =>
  intro i us b c hi _ hu hb hc;refine⟨rfl,hu,hb,hc,?_,fun t _=>rfl⟩;have:i=vs.length:=by omega
  subst this;rw[J0 (Nat.le_refl _),Nat.add_comm];simp only[F9,Int.mul_zero,Int.zero_add];omega
 | succ r ih =>
  intro i us b c hi hl hu hb hc;have hvi:=Zt hv i;have hui:=Zt hu (i+j);have hw:=Tk hg hvi hc;simp only[F9];generalize hp:g*vs.getD i 0+c=p at *
  generalize hd:us.getD (i+j) 0-p % 4294967296-b=d at *
  obtain⟨g1,g2,g3,g4,g5,g6⟩:=ih (i+1) (us.set (i+j) (d % 4294967296)) (if d<0 then 1 else 0) (p / 4294967296) (by omega) (by simpa using hl) (Q4 hu (by omega)) (by split <;> omega) (by omega);refine⟨by simpa using g1,g2,g3,g4,?_,fun t ht => ?_⟩
  ·rw[g5,Jy _ _ _ (by omega),Q3 vs i,show i+1+j=(i+j)+1 by omega,Int.pow_succ];generalize (4294967296:Int)^(i+j)=P at *
   generalize Zj (vs.drop (i+1))=V at *
   have e1:d % 4294967296=d+4294967296*(if d<0 then 1 else 0):=by split <;> omega
   rw[e1];generalize (if d<0 then (1:Int) else 0)=k at *
   have e2:p=4294967296*(p / 4294967296)+p % 4294967296:=by omega
   generalize p / 4294967296=ph at *
   generalize p % 4294967296=pl at *
   generalize us.getD (i+j) 0=u at *
   generalize vs.getD i 0=v at *
   have e3:d=u-pl-b:=by omega
   have e4:c=4294967296*ph+pl-g*v:=by omega
   subst e3;rw[e4];grind
  ·rw[g6 t (by omega),Qq (by omega)]
def Mh (vs:List Int) (j:Nat):Nat->Nat->List Int->Int->List Int × Int
 | 0,_,us,c=>(us,c)
 | r+1,i,us,c=>Mh vs j r (i+1) (us.set (i+j) ((us.getD (i+j) 0+vs.getD i 0+c) % 4294967296)) ((us.getD (i+j) 0+vs.getD i 0+c) / 4294967296)
theorem Zac {vs:List Int} {j:Nat} (hv:U32 vs):∀ (r i:Nat) (us:List Int) (c:Int),r+i=vs.length->j+vs.length<=us.length->U32 us->0<=c/\c<=1 ->
  (Mh vs j r i us c).1.length=us.length/\U32 (Mh vs j r i us c).1/\(0<=(Mh vs j r i us c).2/\(Mh vs j r i us c).2<=1) /\
  Zj (Mh vs j r i us c).1=Zj us+4294967296^(i+j)*(Zj (vs.drop i)+c)-4294967296^(j+vs.length)*(Mh vs j r i us c).2 /\
  ∀ t,t<i+j\/j+vs.length<=t->(Mh vs j r i us c).1.getD t 0=us.getD t 0:=by
 intro r;induction r with
 | zero =>
  intro i us c hi _ hu hc;refine⟨rfl,hu,hc,?_,fun t _=>rfl⟩;have:i=vs.length:=by omega
  subst this;rw[J0 (Nat.le_refl _),Nat.add_comm];simp only[Mh,Int.zero_add];omega
 | succ r ih =>
  intro i us c hi hl hu hc;have hvi:=Zt hv i;have hui:=Zt hu (i+j);simp only[Mh];generalize hd:us.getD (i+j) 0+vs.getD i 0+c=d at *
  obtain⟨g1,g2,g3,g4,g5⟩:=ih (i+1) (us.set (i+j) (d % 4294967296)) (d / 4294967296) (by omega) (by simpa using hl) (Q4 hu (by omega)) (by omega);refine⟨by simpa using g1,g2,g3,?_,fun t ht => ?_⟩
  ·rw[g4,Jy _ _ _ (by omega),Q3 vs i,show i+1+j=(i+j)+1 by omega,Int.pow_succ];generalize (4294967296:Int)^(i+j)=P at *
   generalize Zj (vs.drop (i+1))=V at *
   have e2:d=4294967296*(d / 4294967296)+d % 4294967296:=by omega
   generalize d / 4294967296=ph at *
   generalize d % 4294967296=pl at *
   generalize us.getD (i+j) 0=u at *
   generalize vs.getD i 0=v at *
   have e3:c=4294967296*ph+pl-u-v:=by omega
   rw[e3];grind
  ·rw[g5 t (by omega),Qq (by omega)]
structure Dig (n:Nat) (V W top nxt x y z:Int):Prop where
 vlow:0<=V-(top*4294967296+nxt)*4294967296^n/\V-(top*4294967296+nxt)*4294967296^n<4294967296^n
 wlow:0<=W-((x*4294967296+y)*4294967296+z)*4294967296^n/\W-((x*4294967296+y)*4294967296+z)*4294967296^n<4294967296^n
 htop:2147483648<=top/\top<4294967296
 hnxt:0<=nxt/\nxt<4294967296
 hx:0<=x/\x<4294967296
 hy:0<=y/\y<4294967296
 hz:0<=z/\z<4294967296
 small:W<4294967296*V
structure DigI (V W top num g r:Int):Prop where
 sum:g*top+r=num
 r0:0<=r
 g0:0<=g
 up:W<(g+1)*V
 gle:g<=4294967297
section
variable {n:Nat} {V W top nxt x y z:Int}
theorem Dig.x_le (h:Dig n V W top nxt x y z):x<=top:=by
 have hp:=Qx n;obtain⟨h1,h2⟩:=h.vlow;obtain⟨h3,h4⟩:=h.wlow;have:=h.hnxt;have:=h.hy;have:=h.hz;have hs:=h.small;apply Int.not_lt.1;intro hx;generalize (4294967296:Int)^n=P at *
 have e1:(x*4294967296+y)*4294967296+z>=(top+1)*4294967296*4294967296:=by omega
 have e2:=Int.mul_le_mul_of_nonneg_right e1 (show 0<=P by omega);have e3:top*4294967296+nxt+1<=(top+1)*4294967296:=by omega
 have e4:=Int.mul_le_mul_of_nonneg_right e3 (show 0<=P by omega);have e5:(top+1)*4294967296*4294967296*P=4294967296*((top+1)*4294967296*P):=by grind
 have e6:(top*4294967296+nxt+1)*P=(top*4294967296+nxt)*P+P:=by grind
 omega
theorem Dig.Vpos (h:Dig n V W top nxt x y z):4294967296*4294967296^n<=V:=by
 have hp:=Qx n;obtain⟨h1,h2⟩:=h.vlow;have:=h.hnxt;have:=h.htop;generalize (4294967296:Int)^n=P at *
 have:=Int.mul_le_mul_of_nonneg_right (show (4294967296:Int)<=top*4294967296+nxt by omega) (show 0<=P by omega);omega
theorem Dig.init (h:Dig n V W top nxt x y z):DigI V W top (x*4294967296+y) ((x*4294967296+y) / top) ((x*4294967296+y) % top):=by
 have hxl:=h.x_le;have ht:=h.htop;have hx:=h.hx;have hy:=h.hy;have e:=Int.mul_ediv_add_emod (x*4294967296+y) top;have r0:=Int.emod_nonneg (x*4294967296+y) (show top ≠ 0 by omega);have r1:=Int.emod_lt_of_pos (x*4294967296+y) (show 0<top by omega);have g0:0<=(x*4294967296+y) / top:=Int.ediv_nonneg (by omega) (by omega);have g1:(x*4294967296+y) / top<=4294967297:=by
  apply Int.lt_add_one_iff.1;apply Int.ediv_lt_of_lt_mul (by omega);omega
 generalize hg:(x*4294967296+y) / top=g at *
 generalize hr:(x*4294967296+y) % top=r at *
 refine⟨by rw[Int.mul_comm];exact e,r0,g0,?_,g1⟩;have hp:=Qx n;obtain⟨h1,h2⟩:=h.vlow;obtain⟨h3,h4⟩:=h.wlow;have hnx:=h.hnxt;have hz:=h.hz;generalize (4294967296:Int)^n=P at *
 have e1:x*4294967296+y+1<=(g+1)*top:=by
  have:(g+1)*top=top*g+top:=by grind
  omega
 have e2:(x*4294967296+y)*4294967296+z+1<=(x*4294967296+y+1)*4294967296:=by omega
 have e3:=Int.mul_le_mul_of_nonneg_right e2 (show 0<=P by omega);have e4:=Int.mul_le_mul_of_nonneg_right e1 (show 0<=4294967296*P by omega);have e5:top*(4294967296*P)<=V:=by
  have:(top*4294967296+nxt)*P=top*(4294967296*P)+nxt*P:=by grind
  have:=Int.mul_nonneg hnx.1 (show 0<=P by omega);omega
 have e6:=Int.mul_le_mul_of_nonneg_left e5 (show 0<=g+1 by omega);have e7:(g+1)*(top*(4294967296*P))=(g+1)*top*(4294967296*P):=by grind
 have e8:((x*4294967296+y)*4294967296+z+1)*P=((x*4294967296+y)*4294967296+z)*P+P:=by grind
 have e9:(x*4294967296+y+1)*4294967296*P=(x*4294967296+y+1)*(4294967296*P):=by grind
 omega
theorem Dig.step (h:Dig n V W top nxt x y z) {g r:Int} (i:DigI V W top (x*4294967296+y) g r) (hc:4294967296<=g\/r*4294967296+z<g*nxt):DigI V W top (x*4294967296+y) (g-1) (r+top):=by
 have ht:=h.htop;have hVp:=h.Vpos;have hp:=Qx n;have e0:(g-1)*top+(r+top)=g*top+r:=by grind
 have hg1:1<=g:=by
  rcases hc with h1 | h1
  ·omega
  ·apply Int.not_lt.1;intro hg;have:g=0:=by have:=i.g0;omega
   subst this;have:=i.r0;have:=h.hz;omega
 refine⟨by rw[e0];exact i.sum,by have:=i.r0;omega,by omega,?_,by have:=i.gle;omega⟩;rw[Int.sub_add_cancel];obtain⟨h1,h2⟩:=h.vlow;obtain⟨h3,h4⟩:=h.wlow;have hs:=h.small;rcases hc with hc | hc
 ·have:=Int.mul_le_mul_of_nonneg_right hc (show 0<=V by omega);omega
 ·have hsum:=i.sum;rw[<- hsum] at h3 h4;generalize (4294967296:Int)^n=P at *
  have e1:(g*top+r)*4294967296+z+1<=g*(top*4294967296+nxt):=by
   have:g*(top*4294967296+nxt)=g*top*4294967296+g*nxt:=by grind
   omega
  have e2:=Int.mul_le_mul_of_nonneg_right e1 (show 0<=P by omega);have e3:(top*4294967296+nxt)*P<=V:=by omega
  have e4:=Int.mul_le_mul_of_nonneg_left e3 (show 0<=g by omega);have e5:g*(top*4294967296+nxt)*P=g*((top*4294967296+nxt)*P):=by grind
  have e6:((g*top+r)*4294967296+z+1)*P=((g*top+r)*4294967296+z)*P+P:=by grind
  omega
theorem Dig.small_g (h:Dig n V W top nxt x y z) {g r:Int} (i:DigI V W top (x*4294967296+y) g r) (hr:4294967296<=r):g<4294967296:=by
 have hxl:=h.x_le;have ht:=h.htop;have hy:=h.hy;apply Int.not_le.1;intro hg;have:=Int.mul_le_mul_of_nonneg_right hg (show 0<=top by omega);have:=i.sum;omega
theorem Dig.out (h:Dig n V W top nxt x y z) {g r:Int} (i:DigI V W top (x*4294967296+y) g r) (hg:g<4294967296) (hc:4294967296<=r\/g*nxt<=r*4294967296+z):g*V<W+V:=by
 have ht:=h.htop;have hVp:=h.Vpos;have hp:=Qx n;have hnx:=h.hnxt;have hz:=h.hz;have hc':g*nxt<=r*4294967296+z:=by
  rcases hc with hc | hc
  ·have:=Int.mul_le_mul (show g<=4294967295 by omega) (show nxt<=4294967295 by omega) hnx.1 (by omega);omega
  ·exact hc
 obtain⟨h1,h2⟩:=h.vlow;obtain⟨h3,h4⟩:=h.wlow;have hsum:=i.sum;have hg0:=i.g0;rw[<- hsum] at h3 h4;generalize (4294967296:Int)^n=P at *
 have e1:g*(top*4294967296+nxt)<=(g*top+r)*4294967296+z:=by
  have:g*(top*4294967296+nxt)=g*top*4294967296+g*nxt:=by grind
  omega
 have e2:=Int.mul_le_mul_of_nonneg_right e1 (show 0<=P by omega);have e5:g*(top*4294967296+nxt)*P=g*((top*4294967296+nxt)*P):=by grind
 have e6:=Int.mul_le_mul (Int.le_of_lt hg) (show V-(top*4294967296+nxt)*P<=P by omega) (by omega) (show (0:Int)<=4294967296 by omega);have e7:g*(V-(top*4294967296+nxt)*P)=g*V-g*((top*4294967296+nxt)*P):=by grind
 have e8:g*(V-(top*4294967296+nxt)*P)<4294967296*P:=by
  rcases Int.lt_or_eq_of_le hg0 with q | q
  ·have:=Int.mul_lt_mul_of_pos_left h2 q;have:=Int.mul_le_mul_of_nonneg_right (Int.le_of_lt hg) (show 0<=P by omega);omega
  ·rw[<- q,Int.zero_mul];omega
 omega
end
theorem Zve {us vs:List Int} {j m:Nat} (hu:U32 us) (hv:U32 vs) (hm:vs.length=m+2) (hj:j+m+2<us.length) (ht:2147483648<=vs.getD (m+1) 0) (hW:Zj (us.drop (j+1))<Zj vs) :
  Dig m (Zj vs) (Zj (us.drop j)) (vs.getD (m+1) 0) (vs.getD m 0) (us.getD (j+m+2) 0) (us.getD (j+m+1) 0) (us.getD (j+m) 0):=by
 have hV:=J2 hv;have z:=Wz (Xy hu (j+1)) (n:=m+2) (V:=Zj vs) (by rw[hm] at hV;omega) hW;rw[List.drop_drop] at z;have e1:=Ji (us.drop j) (j:=m) (by simp;omega);rw[List.drop_drop] at e1;have d1:=Q3 us (j+m);have d2:=Q3 us (j+m+1);have d3:=Q3 us (j+m+2);rw[show j+m+2+1=j+1+(m+2) by omega,z] at d3;have l1:=U6 (Xy hu j) m;have l0:=Zv (Jz (Xy hu j) m);have f1:=Ji vs (j:=m) (by omega);have c1:=Q3 vs m;have c2:=Q3 vs (m+1);have c3:=J0 (xs:=vs) (i:=m+1+1) (by omega);rw[c3] at c2;have k1:=U6 hv m;have k0:=Zv (Jz hv m);have g1:=Q3 us j;have gj:=Zt hu j;refine⟨?_,?_,⟨ht,(Zt hv _).2⟩,Zt hv _,Zt hu _,Zt hu _,Zt hu _,by omega⟩
 ·rw[f1,c1,c2,Int.mul_comm (_+_) (4294967296^m)];simp only[Int.mul_zero,Int.add_zero];rw[show vs.getD (m+1) 0*4294967296+vs.getD m 0=vs.getD m 0+4294967296*vs.getD (m+1) 0 by omega];omega
 ·rw[e1,d1,d2,d3,Int.mul_comm (_+_) (4294967296^m)];simp only[Int.mul_zero,Int.add_zero];rw[show (us.getD (j+m+2) 0*4294967296+us.getD (j+m+1) 0)*4294967296+us.getD (j+m) 0=us.getD (j+m) 0+4294967296*(us.getD (j+m+1) 0+4294967296*us.getD (j+m+2) 0) by omega];omega
structure StepOk (us vs ws:List Int) (j:Nat) (q:Int):Prop where
 len:ws.length=us.length
 u32:U32 ws
 val:Zj ws=Zj us-4294967296^j*(q*Zj vs)
 low:Zj (ws.drop j)<Zj vs
theorem Zde {j:Nat} {a b:Int} (h:4294967296^j*a=4294967296^j*b):a=b:=Int.eq_of_mul_eq_mul_left (by have:=Qx j;omega) h
theorem Sj {us ws:List Int} {j:Nat} {k:Int} (hl:ws.length=us.length) (hj:j<=us.length) (h:∀ t,t<j->ws.getD t 0=us.getD t 0) (hv:Zj ws=Zj us+4294967296^j*k):Zj (ws.drop j)=Zj (us.drop j)+k:=by
 have e1:=Ji us hj;have e2:=Ji ws (j:=j) (by omega);rw[Zmt hl h] at e2;apply Zde (j:=j);rw[Int.mul_add];omega
theorem Zfb {us:List Int} {j n:Nat} (hj:j+n<us.length) (hz:Zj (us.drop (j+n+1))=0):Zj (us.drop j)=Zj ((us.drop j).take n)+4294967296^n*us.getD (j+n) 0:=by
 have e1:=Ji (us.drop j) (j:=n) (by simp;omega);rw[List.drop_drop] at e1;have d1:=Q3 us (j+n);rw[hz,Int.mul_zero,Int.add_zero] at d1;rw[e1,d1]
theorem Mb {us vs:List Int} {j:Nat} (hu:U32 us) (hv:U32 vs) (hj:j+vs.length<us.length) (hW:Zj (us.drop (j+1))<Zj vs) {g:Int} (hg:0<=g/\g<4294967296)
  (h1:Zj (us.drop j)<(g+1)*Zj vs) (h2:g*Zj vs<Zj (us.drop j)+Zj vs) :
  let m:=F9 g vs j vs.length 0 us 0 0
  let d:=m.1.getD (j+vs.length) 0-m.2.2-m.2.1
  (d>=0->StepOk us vs (m.1.set (j+vs.length) (d % 4294967296)) j g) /\
  (d<0->StepOk us vs ((Mh vs j vs.length 0 (m.1.set (j+vs.length) (d % 4294967296)) 0).1.set (j+vs.length) (((Mh vs j vs.length 0 (m.1.set (j+vs.length) (d % 4294967296)) 0).1.getD (j+vs.length) 0+(Mh vs j vs.length 0 (m.1.set (j+vs.length) (d % 4294967296)) 0).2) % 4294967296)) j (g-1)/\1<=g):=by
 intro m d;have hVlt:=J2 hv;have z:=Wz (Xy hu (j+1)) (n:=vs.length) (V:=Zj vs) (by omega) hW;rw[List.drop_drop,show j+1+vs.length=j+vs.length+1 by omega] at z;obtain⟨m1,m2,m3,m4,m5,m6⟩:=Tl hg hv vs.length 0 us 0 0 (by omega) (show j+vs.length<=us.length by omega) hu (by omega) (by omega);change m.1.length=us.length at m1;change U32 m.1 at m2;change 0<=m.2.1/\m.2.1<=1 at m3;change 0<=m.2.2/\m.2.2<4294967296 at m4;change Zj m.1=Zj us-4294967296^(0+j)*(g*Zj (vs.drop 0)+0+0)+4294967296^(j+vs.length)*(m.2.1+m.2.2) at m5;change ∀ t,t<0+j\/j+vs.length<=t->m.1.getD t 0=us.getD t 0 at m6;have hd:d=m.1.getD (j+vs.length) 0-m.2.2-m.2.1:=rfl;clear_value d;generalize hms:m.1=ms at *
 generalize m.2.1=b at *
 generalize m.2.2=c at *
 rw[Nat.zero_add,List.drop_zero,Int.add_zero,Int.add_zero] at m5;have m6':=m6 (j+vs.length) (by omega);have w1:Zj (ms.drop j)=Zj (us.drop j)+(4294967296^vs.length*(b+c)-g*Zj vs):=by
  apply Sj m1 (by omega) (fun t ht=>m6 t (by omega));rw[m5,Int.pow_add,Int.mul_sub,Int.mul_assoc];omega
 have zz:Zj (ms.drop (j+vs.length+1))=0:=by
  have:ms.drop (j+vs.length+1)=us.drop (j+vs.length+1):=by
   apply List.ext_getElem?;intro t;rw[List.getElem?_drop,List.getElem?_drop];have:=m6 (j+vs.length+1+t) (by omega);rw[List.getD_eq_getElem?_getD,List.getD_eq_getElem?_getD] at this;rcases Nat.lt_or_ge (j+vs.length+1+t) us.length with k | k
   ·rw[List.getElem?_eq_getElem k,List.getElem?_eq_getElem (by omega)] at this |-;simpa using this
   ·rw[List.getElem?_eq_none k,List.getElem?_eq_none (by omega)]
  rw[this];exact z
 have w2:=Zfb (us:=ms) (j:=j) (n:=vs.length) (by omega) zz;have lo:=U6 (Xy m2 j) vs.length;have lo0:=Zv (Jz (Xy m2 j) vs.length);have hx:=Zt m2 (j+vs.length);have hX:ms.getD (j+vs.length) 0=d+b+c:=by omega
 rw[hX] at w2;have hp:=Qx vs.length;generalize hP:(4294967296:Int)^vs.length=P at *
 generalize hL:Zj ((ms.drop j).take vs.length)=L at *
 have w3:Zj (us.drop j)-g*Zj vs=L+P*d:=by
  rw[w1] at w2;have e:P*(d+b+c)=P*d+P*(b+c):=by grind
  omega
 have e2:(g+1)*Zj vs=g*Zj vs+Zj vs:=by grind
 have lset:∀ v:Int,Zj (ms.set (j+vs.length) v)=Zj us-4294967296^j*(g*Zj vs)+4294967296^j*(P*(v-d)):=by
  intro v;rw[Jy _ _ _ (by omega),m5,hX,Int.pow_add,hP];grind
 refine⟨fun hge => ?_,fun hlt => ?_⟩
 ·have hd0:d=0\/1<=d:=by omega
  have hd1:d<4294967296:=by omega
  refine⟨by simpa using m1,Q4 m2 (by omega),?_,?_⟩
  ·rw[lset,Int.emod_eq_of_lt hge hd1,Int.sub_self,Int.mul_zero,Int.mul_zero,Int.add_zero]
  ·rw[Sj (us:=us) (k := -(g*Zj vs)) (by simpa using m1) (by omega) (fun t ht=>by rw[Qq (by omega)];exact m6 t (by omega)) (by rw[lset,Int.emod_eq_of_lt hge hd1,Int.sub_self,Int.mul_zero,Int.mul_zero,Int.add_zero,Int.mul_neg];omega)];omega
 ·have hg1:1<=g:=by
   apply Int.not_lt.1;intro hh;have hg':g=0:=by omega
   have:=Zv (Xy hu j);rw[hg',Int.zero_mul] at w3;have:=Int.mul_le_mul_of_nonneg_left (show d <= -1 by omega) (show 0<=P by omega);omega
  refine⟨?_,hg1⟩;have hu2:U32 (ms.set (j+vs.length) (d % 4294967296)):=Q4 m2 (by omega);obtain⟨a1,a2,a3,a4,a5⟩:=Zac hv vs.length 0 (ms.set (j+vs.length) (d % 4294967296)) 0 (by omega) (show j+vs.length<=_ by rw[List.length_set];omega) hu2 (by omega);generalize Mh vs j vs.length 0 (ms.set (j+vs.length) (d % 4294967296)) 0=A at *
  have a6:=a5 (j+vs.length) (by omega);have hlen:A.1.length=us.length:=by rw[a1,List.length_set,m1]
  have hget:(ms.set (j+vs.length) (d % 4294967296)).getD (j+vs.length) 0=d % 4294967296:=by
   simp[List.getD_eq_getElem?_getD,show j+vs.length<ms.length by omega]
  rw[hget] at a6;rw[a6];rw[Nat.zero_add,List.drop_zero,Int.add_zero,lset,Int.pow_add,hP] at a4;have aset:∀ v:Int,Zj (A.1.set (j+vs.length) v)=Zj us-4294967296^j*((g-1)*Zj vs)+4294967296^j*(P*(v-d-A.2)):=by
   intro v;rw[Jy _ _ _ (by omega),a4,a6,Int.pow_add,hP];grind
  have hwA:∀ v:Int,Zj ((A.1.set (j+vs.length) v).drop j)=Zj (us.drop j)-(g-1)*Zj vs+P*(v-d-A.2):=by
   intro v;have:=Sj (us:=us) (ws:=A.1.set (j+vs.length) v) (j:=j) (k:=P*(v-d-A.2)-(g-1)*Zj vs) (by simpa using hlen) (by omega) (fun t ht=>by rw[Qq (by omega),a5 t (by omega),Qq (by omega)];exact m6 t (by omega)) (by rw[aset];grind);omega
  have hge0:0<=Zj (us.drop j)-(g-1)*Zj vs:=by
   have:(g-1)*Zj vs=g*Zj vs-Zj vs:=by grind
   omega
  have hltV:Zj (us.drop j)-(g-1)*Zj vs<Zj vs:=by
   have h3:(g-1)*Zj vs=g*Zj vs-Zj vs:=by grind
   have h4:=Int.mul_le_mul_of_nonneg_left (show d <= -1 by omega) (show 0<=P by omega);omega
  have hz3:A.2 = -d:=by
   have q0:=hwA 0;have q1:=Zv (Xy (Q4 a2 (i:=j+vs.length) (v:=0) (by omega)) j);have zz2:Zj ((A.1.set (j+vs.length) 0).drop (j+vs.length+1))=0:=by
    have:(A.1.set (j+vs.length) 0).drop (j+vs.length+1)=ms.drop (j+vs.length+1):=by
     apply List.ext_getElem?;intro t;rw[List.getElem?_drop,List.getElem?_drop];have h5:=a5 (j+vs.length+1+t) (by omega);rw[Qq (by omega)] at h5;have h6:(A.1.set (j+vs.length) 0).getD (j+vs.length+1+t) 0=ms.getD (j+vs.length+1+t) 0:=by rw[Qq (by omega)];exact h5
     rw[List.getD_eq_getElem?_getD,List.getD_eq_getElem?_getD] at h6;rcases Nat.lt_or_ge (j+vs.length+1+t) us.length with k | k
     ·rw[List.getElem?_eq_getElem (by simp;omega),List.getElem?_eq_getElem (by omega)] at h6 |-;simpa using h6
     ·rw[List.getElem?_eq_none (by simp;omega),List.getElem?_eq_none (by omega)]
    rw[this];exact zz
   have q2:=Zfb (us:=A.1.set (j+vs.length) 0) (j:=j) (n:=vs.length) (by simp;omega) zz2;have q3:(A.1.set (j+vs.length) 0).getD (j+vs.length) 0=0:=by simp[List.getD_eq_getElem?_getD,show j+vs.length<A.1.length by omega]
   have q4:=U6 (Xy (Q4 a2 (i:=j+vs.length) (v:=0) (by omega)) j) vs.length;rw[hP] at q2 q4;rw[q3,Int.mul_zero,Int.add_zero] at q2;rw[q0] at q1 q2;rw[<- q2] at q4;generalize Zj (us.drop j)-(g-1)*Zj vs=X at *
   have e5:P*(0-d-A.2)=P*(-d-A.2):=by rw[Int.zero_sub]
   rw[e5] at q1 q4;have c1 : -d-A.2<1:=by
    apply Int.not_le.1;intro hc;have:=Int.mul_le_mul_of_nonneg_left hc (show 0<=P by omega);omega
   have c2 : -1 < -d-A.2:=by
    apply Int.not_le.1;intro hc;have:=Int.mul_le_mul_of_nonneg_left hc (show 0<=P by omega);omega
   omega
  have hv0:(d % 4294967296+A.2) % 4294967296=0:=by omega
  rw[hv0];refine⟨by simpa using hlen,Q4 a2 (by omega),?_,?_⟩
  ·rw[aset,show (0:Int)-d-A.2=0 by omega,Int.mul_zero,Int.mul_zero,Int.add_zero]
  ·rw[hwA,show (0:Int)-d-A.2=0 by omega,Int.mul_zero,Int.add_zero];exact hltV
end Go.Ai

namespace Go.Proofs.YtopjpgejefileaaGreat
open Go.IntKind (i64 u64 u32)
open Go.Ai
theorem w32 {n:Int} (h:0<=n/\n<4294967296):u32.wrap n=n:=by rw [Wj];omega
theorem Ue {n:Int} (h:0<=n/\n<18446744073709551616):u64.wrap n=n:=by rw [Qw];omega
theorem p32:(2:Int)^(min (Int.toNat 32) (IntKind.bits .u64))=4294967296:=by decide
theorem p63:(2:Int)^(min (Int.toNat 63) (IntKind.bits .u64))=9223372036854775808:=by decide
theorem Z46 (s:Int):Int.fdiv s (2^(min (Int.toNat 32) (IntKind.bits .u64)))=s / 4294967296:=by
 rw[p32,Int.fdiv_eq_ediv_of_nonneg _ (by decide)]
theorem fd63 (s:Int):Int.fdiv s (2^(min (Int.toNat 63) (IntKind.bits .u64)))=s / 9223372036854775808:=by
 rw[p63,Int.fdiv_eq_ediv_of_nonneg _ (by decide)]
theorem Mo {r x:Int} (hr:0<=r/\r<4294967296) (hx:0<=x/\x<4294967296) :
  u64.wrap ((BitVec.ofInt (IntKind.bits .u64) (u64.wrap (r*2^(min (Int.toNat 32) (IntKind.bits .u64)))) ||| BitVec.ofInt (IntKind.bits .u64) (u64.wrap x)).toNat)=r*4294967296+x:=by
 rw[p32,Ue (n:=r*4294967296) (by omega),Ue (n:=x) (by omega)];have:=or64 (q:=r) (c:=x) (s:=32) hr.1 (by rw[show (2:Int)^32=4294967296 by decide];omega) (by omega) (by rw[show (2:Int)^32=4294967296 by decide];exact hx);rw[show (2:Int)^32=4294967296 by decide] at this;exact this
theorem or32 {q c:Int} {s:Nat} (hq:0<=q) (hs:q*2^s<4294967296) (hs':s<=32) (hc:0<=c/\c<2^s) :
  u32.wrap ((BitVec.ofInt (IntKind.bits .u32) c ||| BitVec.ofInt (IntKind.bits .u32) (q*2^s)).toNat)=q*2^s+c:=by
 obtain⟨a,rfl⟩:∃ a:Nat,q=a:=⟨q.toNat,by omega⟩;obtain⟨b,rfl⟩:∃ b:Nat,c=b:=⟨c.toNat,by omega⟩;have e1:(a:Int)*2^s=((a*2^s:Nat):Int):=by rw[Int.natCast_mul,Int.natCast_pow];rfl
 have hb:b<2^s:=by
  have:(b:Int)<((2^s:Nat):Int):=by rw[Int.natCast_pow];exact hc.2
  omega
 have h64:2^s<=2^32:=Nat.pow_le_pow_right (by decide) hs';have e64:2^32=4294967296:=by decide
 rw[e1] at hs |-;show u32.wrap ((BitVec.ofInt 32 (b:Int) ||| BitVec.ofInt 32 ((a*2^s:Nat):Int)).toNat:Int)=_;rw[BitVec.or_comm,BitVec.toNat_or,BitVec.ofInt_natCast,BitVec.ofInt_natCast,BitVec.toNat_ofNat,BitVec.toNat_ofNat,Nat.mod_eq_of_lt (by omega),Nat.mod_eq_of_lt (by omega),Nat.mul_comm a,<- Nat.two_pow_add_eq_or_of_lt hb,Nat.mul_comm (2^s) a,Wj];have hsum:a*2^s+b<4294967296:=by
  have hd:a*2^s+2^s<=2^32:=by
   have hk:2^32=2^(32-s)*2^s:=by rw[<- Nat.pow_add];congr 1;omega
   have h1:a<2^(32-s):=by
    rcases Nat.lt_or_ge a (2^(32-s)) with g | g
    ·exact g
    ·have:=Nat.mul_le_mul_right (2^s) g;omega
   have h2:=Nat.mul_le_mul_right (2^s) (show a+1<=2^(32-s) by omega);rw[Nat.add_mul,Nat.one_mul] at h2;omega
  omega
 omega
theorem Zni {s:Nat} (hs:s<=32):(4294967296:Int)=2^(32-s)*2^s:=by rw [<- Int.pow_add,show 32-s+s=32 by omega];decide
theorem L0 {x:Int} {s:Nat} (hx:0<=x/\x<4294967296) (hs:s<32) :
  0<=x*2^s/\x*2^s<18446744073709551616/\x*2^s / 4294967296<2^s/\∃ q:Int,0<=q/\x*2^s % 4294967296=q*2^s:=by
 have hp:=Qe s;have hp2:(2:Int)^s<=2147483648:=by
  have:=Vp (show s<=31 by omega);rwa [show (2:Int)^31=2147483648 by decide] at this
 have h0:=Int.mul_nonneg hx.1 (show (0:Int)<=2^s by omega);have h1:=Int.mul_le_mul (show x<=4294967295 by omega) hp2 (by omega) (by omega);have h2:=Int.mul_lt_mul_of_pos_right hx.2 hp;refine⟨h0,by omega,by omega,?_⟩;have e:(4294967296:Int)=2^(32-s)*2^s:=by
  rw[<- Int.pow_add,show 32-s+s=32 by omega];decide
 refine⟨x % 2^(32-s),Int.emod_nonneg _ (by have:=Qe (32-s);omega),?_⟩;rw[e,Int.mul_comm x,Int.mul_comm (2^(32-s)),Int.mul_emod_mul_of_pos _ _ hp,Int.mul_comm]
end Go.Proofs.YtopjpgejefileaaGreat

namespace Go.Proofs.YtopjpgejefileaaGreat
open Go.IntKind (i64 u64 u32)
open Go.Ai
set_option maxRecDepth 100000
def Znp (n:Nat):Nat:=if n=0 then 0 else Nat.log2 n+1
def N6 (i:Int):Int:=(Znp i.toNat:Nat)
theorem Zno:∀ n:Nat,n<256->(J5[n]?).map (fun c=>(c.toNat:Int))=some ((Znp n:Nat):Int):=by
 have h:(List.range 256).all (fun n=>decide ((J5[n]?).map (fun c=>(c.toNat:Int))=some ((Znp n:Nat):Int)))=true:=by decide +kernel
 intro n hn;have:=List.all_eq_true.1 h n (by simpa using hn);simpa using this
theorem M9 (x:Int):((if 0<=(IntKind.u8.wrap x) then (J5)[(Int.toNat (IntKind.u8.wrap x))]? else none).map fun c=>(c.toNat:Int))=some (N6 (IntKind.u8.wrap x)):=by
 have hw:0<=IntKind.u8.wrap x/\IntKind.u8.wrap x<256:=by
  simp only[IntKind.wrap,IntKind.bits,IntKind.signed,Bool.false_and,Bool.false_eq_true,if_false];omega
 rw[if_pos hw.1];exact Zno _ (by omega)
def Zb5 (x:Int):Int :=
 match decide (x>=65536) with
 | true=>(match decide ((Int.fdiv x (2^(min (Int.toNat 16) (IntKind.bits .u32))))>=256) with
 | true=>(i64.wrap (24+(i64.wrap (N6 (IntKind.u8.wrap (Int.fdiv (Int.fdiv x (2^(min (Int.toNat 16) (IntKind.bits .u32)))) (2^(min (Int.toNat 8) (IntKind.bits .u32)))))))))
 | false=>(i64.wrap (16+(i64.wrap (N6 (IntKind.u8.wrap (Int.fdiv x (2^(min (Int.toNat 16) (IntKind.bits .u32))))))))))
 | false=>(match decide (x>=256) with
 | true=>(i64.wrap (8+(i64.wrap (N6 (IntKind.u8.wrap (Int.fdiv x (2^(min (Int.toNat 8) (IntKind.bits .u32)))))))))
 | false=>(i64.wrap (0+(i64.wrap (N6 (IntKind.u8.wrap x))))))
theorem Zxy (x:Int)  : Zc Yir 150 [.int .u32 x] (.int .i64 (Zb5 x)):=by
 unfold Zb5;cases c1:(decide (x>=65536))
 ·cases c2:(decide (x>=256))
  ·exact Zc.script (r := .int .i64 (i64.wrap (0+(i64.wrap (N6 (IntKind.u8.wrap x)))))) (ps:=[(decide (x>=65536))=false,(decide (x>=256))=false,((if 0<=(IntKind.u8.wrap x) then (J5)[(Int.toNat (IntKind.u8.wrap x))]? else none).map fun c=>(c.toNat:Int))=some (N6 (IntKind.u8.wrap x))]) Zw rfl 300 rfl [.b false,.b false,.v (.int .u8 (N6 (IntKind.u8.wrap x)))] (by kernel_rfl) ⟨c1,c2,(M9 _),trivial⟩
  ·exact Zc.script (r := .int .i64 (i64.wrap (8+(i64.wrap (N6 (IntKind.u8.wrap (Int.fdiv x (2^(min (Int.toNat 8) (IntKind.bits .u32)))))))))) (ps:=[(decide (x>=65536))=false,(decide (x>=256))=true,¬ (8:Int)<0,((if 0<=(IntKind.u8.wrap (Int.fdiv x (2^(min (Int.toNat 8) (IntKind.bits .u32))))) then (J5)[(Int.toNat (IntKind.u8.wrap (Int.fdiv x (2^(min (Int.toNat 8) (IntKind.bits .u32))))))]? else none).map fun c=>(c.toNat:Int))=some (N6 (IntKind.u8.wrap (Int.fdiv x (2^(min (Int.toNat 8) (IntKind.bits .u32))))))]) Zw rfl 300 rfl [.b false,.b true,.v (.int .u8 (N6 (IntKind.u8.wrap (Int.fdiv x (2^(min (Int.toNat 8) (IntKind.bits .u32)))))))] (by kernel_rfl) ⟨c1,c2,(by decide),(M9 _),trivial⟩
 ·cases c2:(decide ((Int.fdiv x (2^(min (Int.toNat 16) (IntKind.bits .u32))))>=256))
  ·exact Zc.script (r := .int .i64 (i64.wrap (16+(i64.wrap (N6 (IntKind.u8.wrap (Int.fdiv x (2^(min (Int.toNat 16) (IntKind.bits .u32)))))))))) (ps:=[(decide (x>=65536))=true,¬ (16:Int)<0,(decide ((Int.fdiv x (2^(min (Int.toNat 16) (IntKind.bits .u32))))>=256))=false,((if 0<=(IntKind.u8.wrap (Int.fdiv x (2^(min (Int.toNat 16) (IntKind.bits .u32))))) then (J5)[(Int.toNat (IntKind.u8.wrap (Int.fdiv x (2^(min (Int.toNat 16) (IntKind.bits .u32))))))]? else none).map fun c=>(c.toNat:Int))=some (N6 (IntKind.u8.wrap (Int.fdiv x (2^(min (Int.toNat 16) (IntKind.bits .u32))))))]) Zw rfl 300 rfl [.b true,.b false,.v (.int .u8 (N6 (IntKind.u8.wrap (Int.fdiv x (2^(min (Int.toNat 16) (IntKind.bits .u32)))))))] (by kernel_rfl) ⟨c1,(by decide),c2,(M9 _),trivial⟩
  ·exact Zc.script (r := .int .i64 (i64.wrap (24+(i64.wrap (N6 (IntKind.u8.wrap (Int.fdiv (Int.fdiv x (2^(min (Int.toNat 16) (IntKind.bits .u32)))) (2^(min (Int.toNat 8) (IntKind.bits .u32)))))))))) (ps:=[(decide (x>=65536))=true,¬ (16:Int)<0,(decide ((Int.fdiv x (2^(min (Int.toNat 16) (IntKind.bits .u32))))>=256))=true,¬ (8:Int)<0,((if 0<=(IntKind.u8.wrap (Int.fdiv (Int.fdiv x (2^(min (Int.toNat 16) (IntKind.bits .u32)))) (2^(min (Int.toNat 8) (IntKind.bits .u32))))) then (J5)[(Int.toNat (IntKind.u8.wrap (Int.fdiv (Int.fdiv x (2^(min (Int.toNat 16) (IntKind.bits .u32)))) (2^(min (Int.toNat 8) (IntKind.bits .u32))))))]? else none).map fun c=>(c.toNat:Int))=some (N6 (IntKind.u8.wrap (Int.fdiv (Int.fdiv x (2^(min (Int.toNat 16) (IntKind.bits .u32)))) (2^(min (Int.toNat 8) (IntKind.bits .u32))))))]) Zw rfl 300 rfl [.b true,.b true,.v (.int .u8 (N6 (IntKind.u8.wrap (Int.fdiv (Int.fdiv x (2^(min (Int.toNat 16) (IntKind.bits .u32)))) (2^(min (Int.toNat 8) (IntKind.bits .u32)))))))] (by kernel_rfl) ⟨c1,(by decide),c2,(by decide),(M9 _),trivial⟩
theorem Zxl (x l:Int) (n1:Zc Yir 150 [.int .u32 x] (.int .i64 l)):Zc Yir 188 [.int .u32 x] (.int .i64 (i64.wrap (32-l))):=Zc.go (fn:=Zko) Zw rfl 400 rfl [.r (.int .i64 l)] (ac n1 a0)
theorem Yq160 (n na:Bool) (xs as1:List Int) (v:Int) (n1:List.length (lm as1)=as1.length*1)
  (n2:as1.length<=35184372088832)
  (n3:Zc Yir 143 [.agg [.bool n,.sl xs.length (lm xs)]] (.tup [.bool na,.sl as1.length (lm as1)]))
  (n4:Zc Yir 152 [.bool false,.sl as1.length (lm as1)] (Zi v)):Zc Yir 160 [.agg [.bool n,.sl xs.length (lm xs)]] (Zi v) :=
 Zc.go (fn:=Zk0) Zw rfl 400 rfl [.r (.tup [.bool na,.sl as1.length (lm as1)]),.r (Zi v)] (ac n3 (ac n1 (ac n2 (ac n4 a0)))) (by kernel_rfl)
theorem Yq177 (n na:Bool) (xs as1:List Int) (n1:Zc Yir 143 [.agg [.bool n,.sl xs.length (lm xs)]] (.tup [.bool na,.sl as1.length (lm as1)])):Zc Yir 177 [.agg [.bool n,.sl xs.length (lm xs)]] (.int .i64 (as1.length:Int)) :=
 Zc.go (fn:=Zkv) Zw rfl 400 rfl [.r (.tup [.bool na,.sl as1.length (lm as1)])] (ac n1 a0) (by kernel_rfl)
theorem Zjs (n na:Bool) (xs as1:List Int) (c1:((as1.length:Int)==0)=true) (n1:Zc Yir 143 [.agg [.bool n,.sl xs.length (lm xs)]] (.tup [.bool na,.sl as1.length (lm as1)])):Zc Yir 102 [.agg [.bool n,.sl xs.length (lm xs)]] (.int .i64 0):=Zc.go (fn:=Ze1) Zw rfl 400 rfl [.r (.tup [.bool na,.sl as1.length (lm as1)]),.b true] (ac n1 (ac c1 a0))
theorem Zjr (n na:Bool) (xs as1:List Int) (l:Int) (c1:((as1.length:Int)==0)=false) (n1:0<=(i64.wrap ((as1.length:Int)-1))/\(i64.wrap ((as1.length:Int)-1))<(as1.length:Int)) (n2:Zc Yir 143 [.agg [.bool n,.sl xs.length (lm xs)]] (.tup [.bool na,.sl as1.length (lm as1)])) (n3:Zc Yir 150 [.int .u32 (as1.getD (Int.toNat (i64.wrap ((as1.length:Int)-1))) 0)] (.int .i64 l)):Zc Yir 102 [.agg [.bool n,.sl xs.length (lm xs)]] (.int .i64 (i64.wrap ((i64.wrap (32*(i64.wrap ((as1.length:Int)-1))))+l))):=Zc.go (fn:=Ze1) Zw rfl 400 rfl [.r (.tup [.bool na,.sl as1.length (lm as1)]),.b false,.v (.int .u32 (as1.getD (Int.toNat (i64.wrap ((as1.length:Int)-1))) 0)),.r (.int .i64 l)] (ac n2 (ac c1 (ac n1 (ac (Zu n1) (ac n3 a0)))))
theorem Vb (n k:Nat) (h:n / 2^k ≠ 0):Nat.log2 n=Nat.log2 (n / 2^k)+k:=by
 have hn:n ≠ 0:=by intro e;subst e;simp at h
 have:=(Nat.log2_eq_iff h).1 rfl;rw[Nat.log2_eq_iff hn];generalize Nat.log2 (n / 2^k)=j at *
 have hp:0<2^k:=Nat.two_pow_pos k;constructor
 ·rw[Nat.pow_add];exact (Nat.le_div_iff_mul_le hp).1 this.1
 ·have:n<2^(j+1)*2^k:=(Nat.div_lt_iff_lt_mul hp).1 this.2;rw[<- Nat.pow_add] at this;have e:j+k+1=j+1+k:=by omega
  rw[e];exact this
theorem Znn (v:Nat) (h:v<256) (h0:v ≠ 0):N6 (IntKind.u8.wrap (v:Int))=((Nat.log2 v+1:Nat):Int):=by
 have hw:IntKind.u8.wrap (v:Int)=v:=by
  simp only[IntKind.wrap,IntKind.bits,IntKind.signed,Bool.false_and,Bool.false_eq_true,if_false];omega
 rw[hw];unfold N6 Znp;rw[Int.toNat_natCast,if_neg h0]
theorem Zv8 (n:Nat) (k:Nat) (hk:k<=32):Int.fdiv (n:Int) (2^(min (Int.toNat (k:Int)) (IntKind.bits .u32)))=((n / 2^k:Nat):Int):=by
 have e:min (Int.toNat (k:Int)) (IntKind.bits .u32)=k:=by
  show min (Int.toNat (k:Int)) 32=k;rw[Int.toNat_natCast];omega
 rw[e,Int.fdiv_eq_ediv_of_nonneg _ (Int.pow_nonneg (by omega))];have:(2:Int)^k=((2^k:Nat):Int):=by simp
 rw[this,<- Int.natCast_ediv]
theorem Znq (n:Nat) (h:n<4294967296) (h0:n ≠ 0):Zb5 (n:Int)=((Nat.log2 n+1:Nat):Int):=by
 have s16 (n:Nat):Int.fdiv (n:Int) (2^(min (Int.toNat 16) (IntKind.bits .u32)))=((n / 2^16:Nat):Int):=Zv8 n 16 (by omega);have s8 (n:Nat):Int.fdiv (n:Int) (2^(min (Int.toNat 8) (IntKind.bits .u32)))=((n / 2^8:Nat):Int):=Zv8 n 8 (by omega);have fin (v c:Nat) (hv:v<256) (hv0:v ≠ 0) (hc:c<=56):i64.wrap ((c:Int)+i64.wrap (N6 (IntKind.u8.wrap (v:Int))))=((Nat.log2 v+1+c:Nat):Int):=by
  have:Nat.log2 v<8:=(Nat.log2_lt hv0).2 hv;rw[Znn v hv hv0,w64 (n:=((Nat.log2 v+1:Nat):Int)) (by omega) (by omega),w64 (by omega) (by omega)];omega
 unfold Zb5;simp only[s16,s8];by_cases b:n<65536
 ·have b':decide ((n:Int)>=65536)=false:=by simp;omega
  rw[b'];by_cases c:n<256
  ·have c':decide ((n:Int)>=256)=false:=by simp;omega
   rw[c'];exact fin n 0 c h0 (by omega)
  ·have c':decide ((n:Int)>=256)=true:=by simp;omega
   rw[c',Vb n 8 (by omega)];have:=fin (n / 2^8) 8 (by omega) (by omega) (by omega);exact this.trans (by omega)
 ·have b':decide ((n:Int)>=65536)=true:=by simp;omega
  rw[b'];dsimp only;by_cases c:n / 2^16<256
  ·have c':decide (((n / 2^16:Nat):Int)>=256)=false:=by simp;omega
   rw[c',Vb n 16 (by omega)];have:=fin (n / 2^16) 16 (by omega) (by omega) (by omega);exact this.trans (by omega)
  ·have c':decide (((n / 2^16:Nat):Int)>=256)=true:=by simp;omega
   rw[c',Vb n 16 (by omega),Vb (n / 2^16) 8 (by omega)];have:=fin (n / 2^16 / 2^8) 24 (by omega) (by omega) (by omega);exact this.trans (by omega)
theorem Pm {n:Nat} (h:n<4294967296) (h0:n ≠ 0):Zc Yir 150 [.int .u32 (n:Nat)] (.int .i64 ((Nat.log2 n+1:Nat):Int)):=by
 have:=Zxy (n:Nat);rwa [Znq n h h0] at this
theorem Zu7 {x:Int} (hx:0<x/\x<4294967296):∃ s:Nat,s<32/\2147483648<=x*2^s/\x*2^s<4294967296/\Zc Yir 188 [.int .u32 x] (.int .i64 (s:Nat)):=by
 obtain⟨n,rfl⟩:∃ n:Nat,x=n:=⟨x.toNat,by omega⟩;have hn0:n ≠ 0:=by omega
 have hl:=(Nat.log2_eq_iff hn0).1 rfl;have hlt:Nat.log2 n<32:=(Nat.log2_lt hn0).2 (by omega);refine⟨31-Nat.log2 n,by omega,?_,?_,?_⟩
 ·have:2^31<=n*2^(31-Nat.log2 n):=by
   have h:=Nat.mul_le_mul_right (2^(31-Nat.log2 n)) hl.1;rwa [<- Nat.pow_add,show Nat.log2 n+(31-Nat.log2 n)=31 by omega] at h
  have e:(n:Int)*2^(31-Nat.log2 n)=((n*2^(31-Nat.log2 n):Nat):Int):=by rw[Int.natCast_mul,Int.natCast_pow];rfl
  rw[e];omega
 ·have:n*2^(31-Nat.log2 n)<2^32:=by
   have h:=Nat.mul_lt_mul_of_pos_right hl.2 (Nat.two_pow_pos (31-Nat.log2 n));rwa [<- Nat.pow_add,show Nat.log2 n+1+(31-Nat.log2 n)=32 by omega] at h
  have e:(n:Int)*2^(31-Nat.log2 n)=((n*2^(31-Nat.log2 n):Nat):Int):=by rw[Int.natCast_mul,Int.natCast_pow];rfl
  rw[e];omega
 ·have h:=Zxl (n:Nat) _ (Pm (by omega) hn0);rw[w64 (by omega) (by omega)] at h;rwa [show (32:Int)-((Nat.log2 n+1:Nat):Int)=((31-Nat.log2 n:Nat):Int) by omega] at h
theorem Lx {neg:Bool} {xs:List Int} (hu:U32 xs) (hN:xs.length<=1048576):Zc Yir 177 [.agg [.bool neg,.sl xs.length (lm xs)]] (.int .i64 (((Zb (rv neg xs).natAbs).length:Nat):Int)) :=
 Yq177 neg _ xs _ (Jl hu hN)
theorem Mq {neg:Bool} {xs:List Int} (hu:U32 xs) (hN:xs.length<=1048576):Zc Yir 160 [.agg [.bool neg,.sl xs.length (lm xs)]] (Zi ((rv neg xs).natAbs:Nat)):=by
 have l1:=Ul (neg:=neg) hu;have h:=Xp (neg:=false) (Qk (rv neg xs).natAbs) (by omega);rw[rv_pos] at h;exact Yq160 neg _ xs _ _ (Zb4 _) (by omega) (Jl hu hN) h
def W1 (n:Nat):Nat:=if n=0 then 0 else Nat.log2 n+1
theorem Zbb {n:Nat} (h:n ≠ 0):1<=(Zb n).length/\∃ x:Nat,(Zb n).getD ((Zb n).length-1) 0=x/\x ≠ 0/\x<4294967296/\n / 2^(32*((Zb n).length-1))=x:=by
 have hc:=Qh n;have hn0:Zb n ≠ []:=by rw[Ne,Wv];exact h
 have hl:=List.length_pos_iff.2 hn0;have ht:=Zt hc.1 ((Zb n).length-1);have hz:(Zb n).getD ((Zb n).length-1) 0 ≠ 0:=by
  rcases hc.2 with g | g
  ·exact absurd g hn0
  ·exact g
 have hs:=Ji (Zb n) (j:=(Zb n).length-1) (by omega);have hd:=Q3 (Zb n) ((Zb n).length-1);rw[J0 (xs:=Zb n) (i:=(Zb n).length-1+1) (by omega),Int.mul_zero,Int.add_zero] at hd;have h1:=U6 hc.1 ((Zb n).length-1);have h0:=Zv (Jz hc.1 ((Zb n).length-1));rw[hd,Qs] at hs;generalize (Zb n).length-1=j at *
 generalize (Zb n).getD j 0=x at *
 obtain⟨x,rfl⟩:∃ y:Nat,x=y:=⟨x.toNat,by omega⟩;refine⟨hl,x,rfl,by omega,by omega,?_⟩;generalize Zj (List.take j (Zb n))=L at *
 have e:((n / 2^(32*j):Nat):Int)=(x:Int):=by
  rw[Int.natCast_ediv,Int.natCast_pow,show ((2:Nat):Int)^(32*j)=4294967296^j by rw[Fd];rfl,hs];have hp:=Qx j;rw[Int.mul_comm (4294967296^j),Int.add_mul_ediv_right _ _ (by omega),Int.ediv_eq_zero_of_lt h0 h1,Int.zero_add]
 omega
theorem Aq {neg:Bool} {xs:List Int} (hu:U32 xs) (hN:xs.length<=1048576):Zc Yir 102 [.agg [.bool neg,.sl xs.length (lm xs)]] (.int .i64 ((W1 (rv neg xs).natAbs:Nat):Int)):=by
 have l1:=Ul (neg:=neg) hu;have r1:=Jl (neg:=neg) hu hN;generalize rv neg xs=a at *
 by_cases h0:a.natAbs=0
 ·have h:=Zjs neg _ xs _ (by rw[h0];rfl) r1;rw[show W1 a.natAbs=0 by unfold W1;rw[if_pos h0]];exact h
 ·obtain⟨t1,x,t2,t3,t4,t5⟩:=Zbb h0;have e1:i64.wrap ((((Zb a.natAbs).length:Nat):Int)-1)=(((Zb a.natAbs).length-1:Nat):Int):=by rw[w64 (by omega) (by omega)];omega
  have hl:=Pm t4 t3;have h:=Zjr neg _ xs (Zb a.natAbs) _ (by rw[beq_eq_false_iff_ne];omega) (by rw[e1];omega) r1 (by rw[e1,Int.toNat_natCast,t2];exact hl);have hlog:Nat.log2 x<32:=(Nat.log2_lt t3).2 t4;rw[e1,w64 (n:=32*(((Zb a.natAbs).length-1:Nat):Int)) (by omega) (by omega),w64 (by omega) (by omega)] at h;have e2:W1 a.natAbs=Nat.log2 x+1+32*((Zb a.natAbs).length-1):=by
   unfold W1;rw[if_neg h0,Vb a.natAbs (32*((Zb a.natAbs).length-1)) (by rw[t5];exact t3),t5];omega
  rw[e2];rwa [show 32*(((Zb a.natAbs).length-1:Nat):Int)+((Nat.log2 x+1:Nat):Int)=((Nat.log2 x+1+32*((Zb a.natAbs).length-1):Nat):Int) by omega] at h
end Go.Proofs.YtopjpgejefileaaGreat
