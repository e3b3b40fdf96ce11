/- Texts of the proof of RootSquares, packed by pack.py: part 11 of 18. -/
import Derived.Test.YthdpfjffdipipaaRsq10
namespace Go.Proofs.Ythdpfjffdipipaa
open Go.IntKind (i64 u64 u32)
open Go.Ai
set_option maxRecDepth 100000
def P1 (na:Bool) (nb:Bool) (la:Nat) (xa:List AV) (lb:Nat) (xb:List AV) (n:Nat) (cs:List AV) (i:Int) (x:Int) (c:Int) (k:Int):Zg:=(dds 4 (.box [.bool false,.sl 0 []]::(.val (.bool na)::(dds 1 (.val (.bool nb)::(.val (.sl lb xb)::(.own 1 n cs::(.val (.int .i64 i)::(.val (.int .u32 x)::(.val (.int .u64 c)::(dds 28 (.val (.sl la xa)::(.val (.int .i64 (la:Int))::(.val (.int .i64 i)::(dds 4 (.val (.sl lb xb)::(.val (.int .i64 (lb:Int))::(.val (.int .i64 k)::(dds 43 [])))))))))))))))))))
theorem Zr5 (na:Bool) (nb:Bool) (la:Nat) (xa:List AV) (lb:Nat) (xb:List AV) (n:Nat) (cs:List AV) (i:Int) (x:Int) (c:Int) (k:Int) (ds:List AV) (y z:Int) (c1:(decide (k<(lb:Int)))=true) (n1:0<=k/\k<(lb:Int)) (n2:Qg (List.drop (Int.toNat k*1) xb) 0 1 true=some (.int .u32 y)) (n3:0<=(i64.wrap (i+k))/\(i64.wrap (i+k))<(n:Int)) (n4:Qg cs (Int.toNat (i64.wrap (i+k))*1) 1 true=some (.int .u32 z)) (n5:0<=(i64.wrap (i+k))/\(i64.wrap (i+k))<(n:Int)) (n6:U4 cs (Int.toNat (i64.wrap (i+k))*1) [.int .u32 (u32.wrap (u64.wrap ((u64.wrap ((u64.wrap ((u64.wrap x)*(u64.wrap y)))+(u64.wrap z)))+c)))]=some ds):Za Yir Zh8 (P1 na nb la xa lb xb n cs i x c k) .norm (P1 na nb la xa lb xb n ds i x (Int.fdiv (u64.wrap ((u64.wrap ((u64.wrap ((u64.wrap x)*(u64.wrap y)))+(u64.wrap z)))+c)) (2^(min (Int.toNat 32) (IntKind.bits .u64)))) (i64.wrap (k+1))):=Za.go Zp 300 [.b true,.v (.int .u32 y),.v (.int .u32 z),.l ds] [4,5,7,8,9,10,11,12,41,42,43,48,49,50] (ac c1 (ac n1 (ac n2 (ac n3 (ac n4 (ac (show ¬ (32:Int)<0 from (by decide)) (ac n5 (ac n6 a0)))))))) (by kernel_rfl)
theorem Zr4 (na:Bool) (nb:Bool) (la:Nat) (xa:List AV) (lb:Nat) (xb:List AV) (n:Nat) (cs:List AV) (i:Int) (x:Int) (c:Int) (k:Int) (c1:(decide (k<(lb:Int)))=false):Za Yir Zh8 (P1 na nb la xa lb xb n cs i x c k) (.exit 2) (P1 na nb la xa lb xb n cs i x c k):=Za.go Zp 300 [.b false] [4,5,7,8,9,10,11,12,41,42,43,48,49,50] (ac c1 a0) (by kernel_rfl)
def Zpn (na:Bool) (nb:Bool) (la:Nat) (xa:List AV) (lb:Nat) (xb:List AV) (n:Nat) (cs:List AV) (i:Int):Zg:=(dds 4 (.box [.bool false,.sl 0 []]::(.val (.bool na)::(dds 1 (.val (.bool nb)::(.val (.sl lb xb)::(.own 1 n cs::(dds 31 (.val (.sl la xa)::(.val (.int .i64 (la:Int))::(.val (.int .i64 i)::(dds 50 []))))))))))))
theorem Zm0 (na nb:Bool) (la:Nat) (xa:List AV) (lb:Nat) (xb:List AV) (n:Nat) (cs:List AV) (i:Int) (h:(decide (i<(la:Int)))=false):Za Yir Yc78 (Zpn na nb la xa lb xb n cs i) (.exit 0) (Zpn na nb la xa lb xb n cs i):=Za.go Zp 300 [.b false] [4,5,7,8,9,41,42,43] (ac (show (decide (i<(la:Int)))=false from h) a0) (by kernel_rfl)
theorem Zho (na nb:Bool) (la:Nat) (xa:List AV) (lb:Nat) (xb:List AV) (n:Nat) (cs ds es:List AV) (i x c k:Int) (h:(decide (i<(la:Int)))=true) (hi:0<=i/\i<(la:Int)) (hx:Qg (List.drop (Int.toNat i*1) xa) 0 1 true=some (.int .u32 x)) (hl:Za Yir (.loop Zh8) (P1 na nb la xa lb xb n cs i x 0 0) (.exit 2) (P1 na nb la xa lb xb n ds i x c k)) (hix:0<=i64.wrap (i+(lb:Int))/\i64.wrap (i+(lb:Int))<(n:Int)) (hst:U4 ds (Int.toNat (i64.wrap (i+(lb:Int)))*1) [.int .u32 (u32.wrap c)]=some es):Za Yir Yc78 (Zpn na nb la xa lb xb n cs i) .norm (Zpn na nb la xa lb xb n es (i64.wrap (i+1))):=(Za.seq (Za.go (t:=(dds 4 (.box [.bool false,.sl 0 []]::(.val (.bool na)::(dds 1 (.val (.bool nb)::(.val (.sl lb xb)::(.own 1 n cs::(dds 31 (.val (.sl la xa)::(vi (la:Int)::(vi i::(.val (.bool (decide (i<(la:Int))))::(dds 49 [])))))))))))))) Zp 300 [] [4,5,7,8,9,41,42,43,44] a0) (Za.seq (Za.go (t:=(dds 4 (.box [.bool false,.sl 0 []]::(.val (.bool na)::(dds 1 (.val (.bool nb)::(.val (.sl lb xb)::(.own 1 n cs::(dds 31 (.val (.sl la xa)::(vi (la:Int)::(vi i::(.val (.bool (decide (i<(la:Int))))::(dds 49 [])))))))))))))) Zp 300 [.b true] [4,5,7,8,9,41,42,43,44] (ac (show (decide (i<(la:Int)))=true from h) a0)) (Za.seq (Za.block_norm (Za.seq (Za.go (t:=(dds 4 (.box [.bool false,.sl 0 []]::(.val (.bool na)::(dds 1 (.val (.bool nb)::(.val (.sl lb xb)::(.own 1 n cs::(vi i::(.val (.int .u32 x)::(dds 29 (.val (.sl la xa)::(vi (la:Int)::(vi i::(.val (.bool (decide (i<(la:Int))))::(vi i::(.mem (List.drop (Int.toNat i*1) xa)::(.val (.int .u32 x)::(dds 46 []))))))))))))))))))) Zp 300 [.v (.int .u32 x)] [4,5,7,8,9,10,11,41,42,43,44,45,46,47] (ac (show 0<=i/\i<(la:Int) from hi) (ac (show Qg (List.drop (Int.toNat i*1) xa) 0 1 true=some (.int .u32 x) from hx) a0))) (Za.seq (Za.go (t:=(dds 4 (.box [.bool false,.sl 0 []]::(.val (.bool na)::(dds 1 (.val (.bool nb)::(.val (.sl lb xb)::(.own 1 n cs::(vi i::(.val (.int .u32 x)::(.val (.int .u64 0)::(dds 28 (.val (.sl la xa)::(vi (la:Int)::(vi i::(.val (.bool (decide (i<(la:Int))))::(vi i::(.mem (List.drop (Int.toNat i*1) xa)::(.val (.int .u32 x)::(dds 46 [])))))))))))))))))))) Zp 300 [] [4,5,7,8,9,10,11,12,41,42,43,44,45,46,47] a0) (Za.seq (Za.seq (Za.go (t:=(dds 4 (.box [.bool false,.sl 0 []]::(.val (.bool na)::(dds 1 (.val (.bool nb)::(.val (.sl lb xb)::(.own 1 n cs::(vi i::(.val (.int .u32 x)::(.val (.int .u64 0)::(dds 28 (.val (.sl la xa)::(vi (la:Int)::(vi i::(dds 4 (.val (.sl lb xb)::(vi (lb:Int)::(vi 0::(dds 43 [])))))))))))))))))))) Zp 300 [] [4,5,7,8,9,10,11,12,41,42,43,48,49,50] a0) (Za.block hl)) (Za.go (t:=(dds 4 (.box [.bool false,.sl 0 []]::(.val (.bool na)::(dds 1 (.val (.bool nb)::(.val (.sl lb xb)::(.own 1 n es::(vi i::(.val (.int .u32 x)::(.val (.int .u64 c)::(dds 28 (.val (.sl la xa)::(vi (la:Int)::(vi i::(dds 4 (.val (.sl lb xb)::(vi (lb:Int)::(vi k::(dds 29 (.dup 9::(vi i::(.val (.sl lb xb)::(vi (lb:Int)::(vi (i64.wrap (i+(lb:Int)))::(.val (.int .u64 c)::(.val (.int .u32 (u32.wrap c))::(.ptr 9 (Int.toNat (i64.wrap (i+(lb:Int)))*1)::(dds 6 []))))))))))))))))))))))))))))) Zp 300 [.l es] [4,5,7,8,9,10,11,12,41,42,43,48,49,50,80,81,82,83,84,85,86,87] (ac (show 0<=(i64.wrap (i+(lb:Int)))/\(i64.wrap (i+(lb:Int)))<(n:Int) from hix) (ac (show U4 ds (Int.toNat (i64.wrap (i+(lb:Int)))*1) [.int .u32 (u32.wrap c)]=some es from hst) a0))))))) (Za.go (t:=(dds 4 (.box [.bool false,.sl 0 []]::(.val (.bool na)::(dds 1 (.val (.bool nb)::(.val (.sl lb xb)::(.own 1 n es::(dds 31 (.val (.sl la xa)::(vi (la:Int)::(vi (i64.wrap (i+1))::(dds 50 []))))))))))))) Zp 300 [] [4,5,7,8,9,41,42,43] a0))))
theorem Zmo (na nb:Bool) (xs ys:List Int) (hx:U32 xs) (hy:U32 ys) (n i:Nat) (hn:n<=1048576) (hib:i+ys.length<=n):∀ (r k:Nat) (out:List Int) (c:Int),r+k=ys.length->out.length=n->U32 out->0<=c/\c<4294967296 ->
  Za Yir (.loop Zh8) (P1 na nb xs.length (lm xs) ys.length (lm ys) n (lm out) (i:Int) (xs.getD i 0) c (k:Int)) (.exit 2)
   (P1 na nb xs.length (lm xs) ys.length (lm ys) n (lm (Db (xs.getD i 0) ys i r k out c).1) (i:Int) (xs.getD i 0) (Db (xs.getD i 0) ys i r k out c).2 (ys.length:Int)):=by
 intro r;induction r with
 | zero =>
  intro k out c hk _ _ _;have hk':k=ys.length:=by omega
  subst hk';exact Za.loop_out (Zr4 na nb xs.length (lm xs) ys.length (lm ys) n (lm out) (i:Int) (xs.getD i 0) c (ys.length:Int) (by simp)) (by nofun)
 | succ r ih =>
  intro k out c hk hl hu hc;have hai:=Zx hx i;have hbk:=Zx hy k;have hok:=Zx hu (i+k);obtain⟨w1,w2,w3,w4⟩:=Zdd hai hbk hc hok;have ei:i64.wrap ((i:Int)+(k:Int))=((i+k:Nat):Int):=by rw[w64 (by omega) (by omega)];omega
  have ek:i64.wrap ((k:Int)+1)=((k+1:Nat):Int):=by rw[w64 (by omega) (by omega)];omega
  have hz:=Zep (xs:=out) (i:=i+k) (by omega);have hyk:=Xt (xs:=ys) (i:=k) (by omega);have hst:=Gh (xs:=out) (i:=i+k) (v:=(c+(out.getD (i+k) 0+xs.getD i 0*ys.getD k 0)) % 4294967296) (by omega);have eW:u64.wrap (u64.wrap (u64.wrap (u64.wrap (xs.getD i 0)*u64.wrap (ys.getD k 0))+u64.wrap (out.getD (i+k) 0))+c)=c+(out.getD (i+k) 0+xs.getD i 0*ys.getD k 0):=by
   have q1:u64.wrap (xs.getD i 0)=xs.getD i 0:=by rw[Js];omega
   have q2:u64.wrap (ys.getD k 0)=ys.getD k 0:=by rw[Js];omega
   have q3:u64.wrap (out.getD (i+k) 0)=out.getD (i+k) 0:=by rw[Js];omega
   rw[q1,q2,q3,Js,Js,Js];omega
  have eS:Int.fdiv (c+(out.getD (i+k) 0+xs.getD i 0*ys.getD k 0)) (2^(min (Int.toNat 32) (IntKind.bits .u64)))=(c+(out.getD (i+k) 0+xs.getD i 0*ys.getD k 0)) / 4294967296:=by
   show Int.fdiv _ 4294967296=_;rw[Int.fdiv_eq_ediv_of_nonneg _ (by omega)]
  have h1:=Zr5 na nb xs.length (lm xs) ys.length (lm ys) n (lm out) (i:Int) (xs.getD i 0) c (k:Int) (lm (out.set (i+k) ((c+(out.getD (i+k) 0+xs.getD i 0*ys.getD k 0)) % 4294967296))) (ys.getD k 0) (out.getD (i+k) 0)
   (by simp;omega) (by omega) (by rw[Int.toNat_natCast];exact hyk) (by rw[ei];omega) (by rw[ei,Int.toNat_natCast];exact hz) (by rw[ei];omega) (by rw[ei,Int.toNat_natCast,eW,H9];exact hst)
  rw[eW,eS,ek] at h1;exact Za.loop h1 (ih (k+1) _ _ (by omega) (by simpa using hl) (Jf hu (by omega)) (by omega))
theorem Zr1 (na nb:Bool) (xs ys:List Int) (hx:U32 xs) (hy:U32 ys) (hN:xs.length+ys.length<=1048576):∀ (r i:Nat) (out:List Int),r+i=xs.length->out.length=xs.length+ys.length->U32 out->(∀ j,i+ys.length<=j->out.getD j 0=0) ->
  ∃ out',out'.length=xs.length+ys.length/\U32 out'/\Zn out'=Zn out+4294967296^i*(Zn (xs.drop i)*Zn ys) /\
   Za Yir (.loop Yc78) (Zpn na nb xs.length (lm xs) ys.length (lm ys) (xs.length+ys.length) (lm out) (i:Int)) (.exit 0) (Zpn na nb xs.length (lm xs) ys.length (lm ys) (xs.length+ys.length) (lm out') (xs.length:Int)):=by
 intro r;induction r with
 | zero =>
  intro i out hi hl hu _;have hi':i=xs.length:=by omega
  subst hi';refine⟨out,hl,hu,by simp[Zn],?_⟩;exact Za.loop_out (Zm0 na nb xs.length (lm xs) ys.length (lm ys) (xs.length+ys.length) (lm out) (xs.length:Int) (by simp)) (by nofun)
 | succ r ih =>
  intro i out hi hl hu hz;have hai:=Zx hx i;have hlt:i<xs.length:=by omega
  have hin:=Zmo na nb xs ys hx hy (xs.length+ys.length) i hN (by omega) ys.length 0 out 0 (by omega) hl hu (by omega);obtain⟨g1,g2,g3,g4,g5⟩:=Zkf (i:=i) hai hy ys.length 0 out 0 (by omega) (by omega) hu (by omega);generalize Db (xs.getD i 0) ys i ys.length 0 out 0=q at *
  obtain⟨ds,c⟩:=q;dsimp only at g1 g2 g3 g4 g5 hin;have ei:i64.wrap ((i:Int)+(ys.length:Int))=((i+ys.length:Nat):Int):=by rw[w64 (by omega) (by omega)];omega
  have ei1:i64.wrap ((i:Int)+1)=((i+1:Nat):Int):=by rw[w64 (by omega) (by omega)];omega
  have ec:u32.wrap c=c:=by rw[H9];omega
  have hst:=Gh (xs:=ds) (i:=i+ys.length) (v:=c) (by omega);have hxi:=Xt (xs:=xs) (i:=i) hlt;have h1:=Zho na nb xs.length (lm xs) ys.length (lm ys) (xs.length+ys.length) (lm out) (lm ds) (lm (ds.set (i+ys.length) c)) (i:Int) (xs.getD i 0) c (ys.length:Int) (by simp;omega) (by omega) (by rw[Int.toNat_natCast];exact hxi) hin (by rw[ei];omega) (by rw[ei,Int.toNat_natCast,ec];exact hst);rw[ei1] at h1;obtain⟨out',k1,k2,k3,k4⟩:=ih (i+1) (ds.set (i+ys.length) c) (by omega) (by simp;omega) (Jf g2 g3) (fun j hj=>by rw[A1 (by omega),g5 j (by omega),hz j (by omega)]);refine⟨out',k1,k2,?_,Za.loop h1 k4⟩;have hv:Zn (ds.set (i+ys.length) c)=Zn out+4294967296^i*(xs.getD i 0*Zn ys):=by
   rw[Xd ds _ _ (by omega),g5 _ (Nat.le_refl _),hz _ (Nat.le_refl _)];simp only[Nat.add_zero,List.drop_zero,Int.zero_add,Int.sub_zero] at g4 |-;exact g4
  have hd:Zn (xs.drop i)=xs.getD i 0+4294967296*Zn (xs.drop (i+1)):=Jd xs i;rw[k3,hv,hd,Int.pow_succ];generalize (4294967296:Int)^i=p at *
  generalize Zn (xs.drop (i+1))=V at *
  grind
theorem Zlu (na:Bool) (xs:List Int) (nb:Bool) (ys:List Int) (a b:Int) (h1:Zc Yir 75 [.agg [.bool na,.sl xs.length (lm xs)]] (.tup [.bool (decide (a<0)),.sl (Zb (Int.natAbs a)).length (lm (Zb (Int.natAbs a)))])) (h2:Zc Yir 75 [.agg [.bool nb,.sl ys.length (lm ys)]] (.tup [.bool (decide (b<0)),.sl (Zb (Int.natAbs b)).length (lm (Zb (Int.natAbs b)))])) (z:((((Zb (Int.natAbs a)).length:Nat):Int)==0)=true):Zc Yir 78 [.agg [.bool na,.sl xs.length (lm xs)],.agg [.bool nb,.sl ys.length (lm ys)]] (.agg [.bool false,.sl 0 []]):=Zc.script (ps:=[Zc Yir 75 [.agg [.bool na,.sl xs.length (lm xs)]] (.tup [.bool (decide (a<0)),.sl ((Zb (Int.natAbs a)).length) (lm (Zb (Int.natAbs a)))]),Zc Yir 75 [.agg [.bool nb,.sl ys.length (lm ys)]] (.tup [.bool (decide (b<0)),.sl ((Zb (Int.natAbs b)).length) (lm (Zb (Int.natAbs b)))]),((((Zb (Int.natAbs a)).length:Nat):Int)==0)=true,true=true]) Zp rfl 300 rfl [.r (.tup [.bool (decide (a<0)),.sl ((Zb (Int.natAbs a)).length) (lm (Zb (Int.natAbs a)))]),.r (.tup [.bool (decide (b<0)),.sl ((Zb (Int.natAbs b)).length) (lm (Zb (Int.natAbs b)))]),.b true,.b true] (by kernel_rfl) ⟨h1,h2,z,rfl,trivial⟩
theorem Zlt (na:Bool) (xs:List Int) (nb:Bool) (ys:List Int) (a b:Int) (h1:Zc Yir 75 [.agg [.bool na,.sl xs.length (lm xs)]] (.tup [.bool (decide (a<0)),.sl (Zb (Int.natAbs a)).length (lm (Zb (Int.natAbs a)))])) (h2:Zc Yir 75 [.agg [.bool nb,.sl ys.length (lm ys)]] (.tup [.bool (decide (b<0)),.sl (Zb (Int.natAbs b)).length (lm (Zb (Int.natAbs b)))])) (y:((((Zb (Int.natAbs a)).length:Nat):Int)==0)=false) (z:((((Zb (Int.natAbs b)).length:Nat):Int)==0)=true):Zc Yir 78 [.agg [.bool na,.sl xs.length (lm xs)],.agg [.bool nb,.sl ys.length (lm ys)]] (.agg [.bool false,.sl 0 []]):=Zc.script (ps:=[Zc Yir 75 [.agg [.bool na,.sl xs.length (lm xs)]] (.tup [.bool (decide (a<0)),.sl ((Zb (Int.natAbs a)).length) (lm (Zb (Int.natAbs a)))]),Zc Yir 75 [.agg [.bool nb,.sl ys.length (lm ys)]] (.tup [.bool (decide (b<0)),.sl ((Zb (Int.natAbs b)).length) (lm (Zb (Int.natAbs b)))]),((((Zb (Int.natAbs a)).length:Nat):Int)==0)=false,((((Zb (Int.natAbs b)).length:Nat):Int)==0)=true]) Zp rfl 300 rfl [.r (.tup [.bool (decide (a<0)),.sl ((Zb (Int.natAbs a)).length) (lm (Zb (Int.natAbs a)))]),.r (.tup [.bool (decide (b<0)),.sl ((Zb (Int.natAbs b)).length) (lm (Zb (Int.natAbs b)))]),.b false,.b true] (by kernel_rfl) ⟨h1,h2,y,z,trivial⟩
theorem Zls (na:Bool) (xs:List Int) (nb:Bool) (ys:List Int) (a b:Int) (h1:Zc Yir 75 [.agg [.bool na,.sl xs.length (lm xs)]] (.tup [.bool (decide (a<0)),.sl (Zb (Int.natAbs a)).length (lm (Zb (Int.natAbs a)))])) (h2:Zc Yir 75 [.agg [.bool nb,.sl ys.length (lm ys)]] (.tup [.bool (decide (b<0)),.sl (Zb (Int.natAbs b)).length (lm (Zb (Int.natAbs b)))])) (out:List Int) (r:Int) (y:((((Zb (Int.natAbs a)).length:Nat):Int)==0)=false) (z:((((Zb (Int.natAbs b)).length:Nat):Int)==0)=false) (hmk:0<=i64.wrap ((((Zb (Int.natAbs a)).length:Nat):Int)+(((Zb (Int.natAbs b)).length:Nat):Int))/\i64.wrap ((((Zb (Int.natAbs a)).length:Nat):Int)+(((Zb (Int.natAbs b)).length:Nat):Int))<=1048576) (hl:Za Yir (.loop Yc78) (Zpn (decide (a<0)) (decide (b<0)) (Zb (Int.natAbs a)).length (lm (Zb (Int.natAbs a))) (Zb (Int.natAbs b)).length (lm (Zb (Int.natAbs b))) (Int.toNat (i64.wrap ((((Zb (Int.natAbs a)).length:Nat):Int)+(((Zb (Int.natAbs b)).length:Nat):Int)))) (J3 [.int .u32 0] (Int.toNat (i64.wrap ((((Zb (Int.natAbs a)).length:Nat):Int)+(((Zb (Int.natAbs b)).length:Nat):Int))))) 0) (.exit 0) (Zpn (decide (a<0)) (decide (b<0)) (Zb (Int.natAbs a)).length (lm (Zb (Int.natAbs a))) (Zb (Int.natAbs b)).length (lm (Zb (Int.natAbs b))) (Int.toNat (i64.wrap ((((Zb (Int.natAbs a)).length:Nat):Int)+(((Zb (Int.natAbs b)).length:Nat):Int)))) (lm out) (((Zb (Int.natAbs a)).length:Nat):Int))) (h3:Zc Yir 113 [.bool (!((decide (a<0))==(decide (b<0)))),.sl (Int.toNat (i64.wrap ((((Zb (Int.natAbs a)).length:Nat):Int)+(((Zb (Int.natAbs b)).length:Nat):Int)))) (lm out)] (.agg [.bool (decide (r<0)),.sl ((Zb (Int.natAbs r)).length) (lm (Zb (Int.natAbs r)))])):Zc Yir 78 [.agg [.bool na,.sl xs.length (lm xs)],.agg [.bool nb,.sl ys.length (lm ys)]] (.agg [.bool (decide (r<0)),.sl ((Zb (Int.natAbs r)).length) (lm (Zb (Int.natAbs r)))]):=Zc.of_bodyW (fn:=Yi78) (s:=(dds 4 (.box [.bool (decide (r<0)),.sl ((Zb (Int.natAbs r)).length) (lm (Zb (Int.natAbs r)))]::(.val (.bool (decide (a<0)))::(dds 1 (.val (.bool (decide (b<0)))::(.val (.sl ((Zb (Int.natAbs b)).length) (lm (Zb (Int.natAbs b))))::(.val (.sl (Int.toNat (i64.wrap ((((Zb (Int.natAbs a)).length:Nat):Int)+(((Zb (Int.natAbs b)).length:Nat):Int)))) (lm out))::(dds 31 (.val (.sl ((Zb (Int.natAbs a)).length) (lm (Zb (Int.natAbs a))))::(.val (.int .i64 (((Zb (Int.natAbs a)).length:Nat):Int))::(.val (.int .i64 (((Zb (Int.natAbs a)).length:Nat):Int))::(dds 45 (.val (.bool (decide (a<0)))::(.val (.bool (decide (b<0)))::(.val (.bool (!((decide (a<0))==(decide (b<0)))))::(.val (.sl (Int.toNat (i64.wrap ((((Zb (Int.natAbs a)).length:Nat):Int)+(((Zb (Int.natAbs b)).length:Nat):Int)))) (lm out))::(.val (.agg [.bool (decide (r<0)),.sl ((Zb (Int.natAbs r)).length) (lm (Zb (Int.natAbs r)))])::[])))))))))))))))))) (ex := .ret) rfl rfl (Za.seq (Za.go (t:=(.val (.agg [.bool na,.sl xs.length (lm xs)])::(.val (.agg [.bool nb,.sl ys.length (lm ys)])::(.box [.bool na,.sl xs.length (lm xs)]::(.box [.bool nb,.sl ys.length (lm ys)]::(.box [.bool false,.sl 0 []]::(dds 89 []))))))) Zp 300 [] [0,1,2,3,4] a0) (Za.seq (Za.go (t:=(.val (.agg [.bool na,.sl xs.length (lm xs)])::(.val (.agg [.bool nb,.sl ys.length (lm ys)])::(.box [.bool na,.sl xs.length (lm xs)]::(.box [.bool nb,.sl ys.length (lm ys)]::(.box [.bool false,.sl 0 []]::(.val (.bool (decide (a<0)))::(.val (.sl ((Zb (Int.natAbs a)).length) (lm (Zb (Int.natAbs a))))::(dds 9 (.val (.tup [.bool (decide (a<0)),.sl ((Zb (Int.natAbs a)).length) (lm (Zb (Int.natAbs a)))])::(.val (.agg [.bool na,.sl xs.length (lm xs)])::(.val (.tup [.bool (decide (a<0)),.sl ((Zb (Int.natAbs a)).length) (lm (Zb (Int.natAbs a)))])::(.val (.bool (decide (a<0)))::(.val (.sl ((Zb (Int.natAbs a)).length) (lm (Zb (Int.natAbs a))))::(dds 73 []))))))))))))))) Zp 300 [.r (.tup [.bool (decide (a<0)),.sl ((Zb (Int.natAbs a)).length) (lm (Zb (Int.natAbs a)))])] [0,1,2,3,4,5,6,16,17,18,19,20] (ac (show Zc Yir 75 [.agg [.bool na,.sl xs.length (lm xs)]] (.tup [.bool (decide (a<0)),.sl ((Zb (Int.natAbs a)).length) (lm (Zb (Int.natAbs a)))]) from h1) a0)) (Za.seq (Za.go (t:=(.val (.agg [.bool na,.sl xs.length (lm xs)])::(.val (.agg [.bool nb,.sl ys.length (lm ys)])::(.box [.bool na,.sl xs.length (lm xs)]::(.box [.bool nb,.sl ys.length (lm ys)]::(.box [.bool false,.sl 0 []]::(.val (.bool (decide (a<0)))::(.val (.sl ((Zb (Int.natAbs a)).length) (lm (Zb (Int.natAbs a))))::(.val (.bool (decide (b<0)))::(.val (.sl ((Zb (Int.natAbs b)).length) (lm (Zb (Int.natAbs b))))::(dds 7 (.val (.tup [.bool (decide (a<0)),.sl ((Zb (Int.natAbs a)).length) (lm (Zb (Int.natAbs a)))])::(.val (.agg [.bool na,.sl xs.length (lm xs)])::(.val (.tup [.bool (decide (a<0)),.sl ((Zb (Int.natAbs a)).length) (lm (Zb (Int.natAbs a)))])::(.val (.bool (decide (a<0)))::(.val (.sl ((Zb (Int.natAbs a)).length) (lm (Zb (Int.natAbs a))))::(.val (.tup [.bool (decide (b<0)),.sl ((Zb (Int.natAbs b)).length) (lm (Zb (Int.natAbs b)))])::(.val (.agg [.bool nb,.sl ys.length (lm ys)])::(.val (.tup [.bool (decide (b<0)),.sl ((Zb (Int.natAbs b)).length) (lm (Zb (Int.natAbs b)))])::(.val (.bool (decide (b<0)))::(.val (.sl ((Zb (Int.natAbs b)).length) (lm (Zb (Int.natAbs b))))::(dds 68 [])))))))))))))))))))))) Zp 300 [.r (.tup [.bool (decide (b<0)),.sl ((Zb (Int.natAbs b)).length) (lm (Zb (Int.natAbs b)))])] [0,1,2,3,4,5,6,7,8,16,17,18,19,20,21,22,23,24,25] (ac (show Zc Yir 75 [.agg [.bool nb,.sl ys.length (lm ys)]] (.tup [.bool (decide (b<0)),.sl ((Zb (Int.natAbs b)).length) (lm (Zb (Int.natAbs b)))]) from h2) a0)) (Za.seq (Za.go (t:=(.val (.agg [.bool na,.sl xs.length (lm xs)])::(.val (.agg [.bool nb,.sl ys.length (lm ys)])::(.box [.bool na,.sl xs.length (lm xs)]::(.box [.bool nb,.sl ys.length (lm ys)]::(.box [.bool false,.sl 0 []]::(.val (.bool (decide (a<0)))::(.val (.sl ((Zb (Int.natAbs a)).length) (lm (Zb (Int.natAbs a))))::(.val (.bool (decide (b<0)))::(.val (.sl ((Zb (Int.natAbs b)).length) (lm (Zb (Int.natAbs b))))::(dds 7 (.val (.tup [.bool (decide (a<0)),.sl ((Zb (Int.natAbs a)).length) (lm (Zb (Int.natAbs a)))])::(.val (.agg [.bool na,.sl xs.length (lm xs)])::(.val (.tup [.bool (decide (a<0)),.sl ((Zb (Int.natAbs a)).length) (lm (Zb (Int.natAbs a)))])::(.val (.bool (decide (a<0)))::(.val (.sl ((Zb (Int.natAbs a)).length) (lm (Zb (Int.natAbs a))))::(.val (.tup [.bool (decide (b<0)),.sl ((Zb (Int.natAbs b)).length) (lm (Zb (Int.natAbs b)))])::(.val (.agg [.bool nb,.sl ys.length (lm ys)])::(.val (.tup [.bool (decide (b<0)),.sl ((Zb (Int.natAbs b)).length) (lm (Zb (Int.natAbs b)))])::(.val (.bool (decide (b<0)))::(.val (.sl ((Zb (Int.natAbs b)).length) (lm (Zb (Int.natAbs b))))::(.val (.sl ((Zb (Int.natAbs a)).length) (lm (Zb (Int.natAbs a))))::(vi (((Zb (Int.natAbs a)).length:Nat):Int)::(.val (.bool ((((Zb (Int.natAbs a)).length:Nat):Int)==0))::(.val (.bool ((((Zb (Int.natAbs a)).length:Nat):Int)==0))::(.val (.sl ((Zb (Int.natAbs b)).length) (lm (Zb (Int.natAbs b))))::(vi (((Zb (Int.natAbs b)).length:Nat):Int)::(.val (.bool ((((Zb (Int.natAbs b)).length:Nat):Int)==0))::(.val (.bool ((((Zb (Int.natAbs b)).length:Nat):Int)==0))::(dds 60 [])))))))))))))))))))))))))))))) Zp 300 [.b false,.b false] [0,1,2,3,4,5,6,7,8,16,17,18,19,20,21,22,23,24,25,26,27,28,29,30,31,32,33] (ac (show ((((Zb (Int.natAbs a)).length:Nat):Int)==0)=false from y) (ac (show ((((Zb (Int.natAbs b)).length:Nat):Int)==0)=false from z) a0))) (Za.seq (Za.go (t:=(.val (.agg [.bool na,.sl xs.length (lm xs)])::(.val (.agg [.bool nb,.sl ys.length (lm ys)])::(.box [.bool na,.sl xs.length (lm xs)]::(.box [.bool nb,.sl ys.length (lm ys)]::(.box [.bool false,.sl 0 []]::(.val (.bool (decide (a<0)))::(.val (.sl ((Zb (Int.natAbs a)).length) (lm (Zb (Int.natAbs a))))::(.val (.bool (decide (b<0)))::(.val (.sl ((Zb (Int.natAbs b)).length) (lm (Zb (Int.natAbs b))))::(.own 1 (Int.toNat (i64.wrap ((((Zb (Int.natAbs a)).length:Nat):Int)+(((Zb (Int.natAbs b)).length:Nat):Int)))) (J3 [.int .u32 0] (Int.toNat (i64.wrap ((((Zb (Int.natAbs a)).length:Nat):Int)+(((Zb (Int.natAbs b)).length:Nat):Int)))))::(dds 6 (.val (.tup [.bool (decide (a<0)),.sl ((Zb (Int.natAbs a)).length) (lm (Zb (Int.natAbs a)))])::(.val (.agg [.bool na,.sl xs.length (lm xs)])::(.val (.tup [.bool (decide (a<0)),.sl ((Zb (Int.natAbs a)).length) (lm (Zb (Int.natAbs a)))])::(.val (.bool (decide (a<0)))::(.val (.sl ((Zb (Int.natAbs a)).length) (lm (Zb (Int.natAbs a))))::(.val (.tup [.bool (decide (b<0)),.sl ((Zb (Int.natAbs b)).length) (lm (Zb (Int.natAbs b)))])::(.val (.agg [.bool nb,.sl ys.length (lm ys)])::(.val (.tup [.bool (decide (b<0)),.sl ((Zb (Int.natAbs b)).length) (lm (Zb (Int.natAbs b)))])::(.val (.bool (decide (b<0)))::(.val (.sl ((Zb (Int.natAbs b)).length) (lm (Zb (Int.natAbs b))))::(.val (.sl ((Zb (Int.natAbs a)).length) (lm (Zb (Int.natAbs a))))::(vi (((Zb (Int.natAbs a)).length:Nat):Int)::(.val (.bool ((((Zb (Int.natAbs a)).length:Nat):Int)==0))::(.val (.bool ((((Zb (Int.natAbs a)).length:Nat):Int)==0))::(.val (.sl ((Zb (Int.natAbs b)).length) (lm (Zb (Int.natAbs b))))::(vi (((Zb (Int.natAbs b)).length:Nat):Int)::(.val (.bool ((((Zb (Int.natAbs b)).length:Nat):Int)==0))::(.val (.bool ((((Zb (Int.natAbs b)).length:Nat):Int)==0))::(dds 1 (.val (.sl ((Zb (Int.natAbs a)).length) (lm (Zb (Int.natAbs a))))::(vi (((Zb (Int.natAbs a)).length:Nat):Int)::(.val (.sl ((Zb (Int.natAbs b)).length) (lm (Zb (Int.natAbs b))))::(vi (((Zb (Int.natAbs b)).length:Nat):Int)::(vi (i64.wrap ((((Zb (Int.natAbs a)).length:Nat):Int)+(((Zb (Int.natAbs b)).length:Nat):Int)))::(dds 54 []))))))))))))))))))))))))))))))))))))) Zp 300 [] ((0)::(1)::(2)::(3)::(4)::(5)::(6)::(7)::(8)::(9)::(16)::(17)::(18)::(19)::(20)::(21)::(22)::(23)::(24)::(25)::(26)::(27)::(28)::(29)::(30)::(31)::(32)::(33)::(35)::(36)::(37)::(38)::(39)::[]) (ac (show 0<=(i64.wrap ((((Zb (Int.natAbs a)).length:Nat):Int)+(((Zb (Int.natAbs b)).length:Nat):Int)))/\(i64.wrap ((((Zb (Int.natAbs a)).length:Nat):Int)+(((Zb (Int.natAbs b)).length:Nat):Int)))<=1048576 from hmk) a0)) (Za.seq (Za.seq (Za.go (t:=(dds 4 (.box [.bool false,.sl 0 []]::(.val (.bool (decide (a<0)))::(dds 1 (.val (.bool (decide (b<0)))::(.val (.sl ((Zb (Int.natAbs b)).length) (lm (Zb (Int.natAbs b))))::(.own 1 (Int.toNat (i64.wrap ((((Zb (Int.natAbs a)).length:Nat):Int)+(((Zb (Int.natAbs b)).length:Nat):Int)))) (J3 [.int .u32 0] (Int.toNat (i64.wrap ((((Zb (Int.natAbs a)).length:Nat):Int)+(((Zb (Int.natAbs b)).length:Nat):Int)))))::(dds 31 (.val (.sl ((Zb (Int.natAbs a)).length) (lm (Zb (Int.natAbs a))))::(vi (((Zb (Int.natAbs a)).length:Nat):Int)::(vi 0::(dds 50 []))))))))))))) Zp 300 [] [4,5,7,8,9,41,42,43] a0) (Za.block hl)) (Za.go (t:=(dds 4 (bN r::(.val (.bool (decide (a<0)))::(dds 1 (.val (.bool (decide (b<0)))::(.val (.sl ((Zb (Int.natAbs b)).length) (lm (Zb (Int.natAbs b))))::(.val (.sl (Int.toNat (i64.wrap ((((Zb (Int.natAbs a)).length:Nat):Int)+(((Zb (Int.natAbs b)).length:Nat):Int)))) (lm out))::(dds 31 (.val (.sl ((Zb (Int.natAbs a)).length) (lm (Zb (Int.natAbs a))))::(vi (((Zb (Int.natAbs a)).length:Nat):Int)::(vi (((Zb (Int.natAbs a)).length:Nat):Int)::(dds 45 (.val (.bool (decide (a<0)))::(.val (.bool (decide (b<0)))::(.val (.bool (!((decide (a<0))==(decide (b<0)))))::(.val (.sl (Int.toNat (i64.wrap ((((Zb (Int.natAbs a)).length:Nat):Int)+(((Zb (Int.natAbs b)).length:Nat):Int)))) (lm out))::(.val (.agg [.bool (decide (r<0)),.sl ((Zb (Int.natAbs r)).length) (lm (Zb (Int.natAbs r)))])::[])))))))))))))))))) (ex := .ret) Zp 300 [.r (.agg [.bool (decide (r<0)),.sl ((Zb (Int.natAbs r)).length) (lm (Zb (Int.natAbs r)))])] [4,5,7,8,9,41,42,43,89,90,91,92,93] (ac (show Zc Yir 113 [.bool (!((decide (a<0))==(decide (b<0)))),.sl (Int.toNat (i64.wrap ((((Zb (Int.natAbs a)).length:Nat):Int)+(((Zb (Int.natAbs b)).length:Nat):Int)))) (lm out)] (.agg [.bool (decide (r<0)),.sl ((Zb (Int.natAbs r)).length) (lm (Zb (Int.natAbs r)))]) from h3) a0)))))))) (by nofun) rfl
theorem Zjl (a b:Int) (zs:List Int) (h:Zn zs=(a.natAbs:Int)*(b.natAbs:Int)):rv (!(decide (a<0)==decide (b<0))) zs=a*b:=by
 unfold rv;rw[h];by_cases g1:a<0 <;> by_cases g2:b<0
 ·have e1:(a.natAbs:Int) = -a:=by omega
  have e2:(b.natAbs:Int) = -b:=by omega
  rw[e1,e2];simp[g1,g2] <;> grind
 ·have e1:(a.natAbs:Int) = -a:=by omega
  have e2:(b.natAbs:Int)=b:=by omega
  rw[e1,e2];simp[g1,g2] <;> grind
 ·have e1:(a.natAbs:Int)=a:=by omega
  have e2:(b.natAbs:Int) = -b:=by omega
  rw[e1,e2];simp[g1,g2] <;> grind
 ·have e1:(a.natAbs:Int)=a:=by omega
  have e2:(b.natAbs:Int)=b:=by omega
  rw[e1,e2];simp[g1,g2]
theorem N4 {na nb:Bool} {xs ys:List Int} (hx:U32 xs) (hy:U32 ys) (hN:xs.length+ys.length<=1048576):Zc Yir 78 [.agg [.bool na,.sl xs.length (lm xs)],.agg [.bool nb,.sl ys.length (lm ys)]] (Zi (rv na xs*rv nb ys)):=by
 have l1:=Vl (neg:=na) hx;have l2:=Vl (neg:=nb) hy;have k1:=Qv (neg:=na) hx (by omega);have k2:=Qv (neg:=nb) hy (by omega);generalize rv na xs=a at *
 generalize rv nb ys=b at *
 have z1:=Ju a.natAbs;have z2:=Ju b.natAbs;by_cases ha:a=0
 ·have h:=Zlu na xs nb ys a b k1 k2 (by rw[beq_iff_eq];omega);rw[ha,Int.zero_mul];exact h
 by_cases hb:b=0
 ·have h:=Zlt na xs nb ys a b k1 k2 (by rw[beq_eq_false_iff_ne];omega) (by rw[beq_iff_eq];omega);rw[hb,Int.mul_zero];exact h
 have e1:i64.wrap ((((Zb (Int.natAbs a)).length:Nat):Int)+(((Zb (Int.natAbs b)).length:Nat):Int))=(((Zb (Int.natAbs a)).length+(Zb (Int.natAbs b)).length:Nat):Int):=by rw[w64 (by omega) (by omega)];omega
 have e2:(Int.toNat (i64.wrap ((((Zb (Int.natAbs a)).length:Nat):Int)+(((Zb (Int.natAbs b)).length:Nat):Int))))=(Zb (Int.natAbs a)).length+(Zb (Int.natAbs b)).length:=by rw[e1,Int.toNat_natCast]
 obtain⟨out,o1,o2,o3,o4⟩:=Zr1 (decide (a<0)) (decide (b<0)) (Zb (Int.natAbs a)) (Zb (Int.natAbs b)) (Q6 _) (Q6 _) (by omega) (Zb (Int.natAbs a)).length 0 (List.replicate ((Zb (Int.natAbs a)).length+(Zb (Int.natAbs b)).length) 0) (by omega) (by simp) (X2 _) (fun j _=>J8 _ j);have hv:Zn out=(a.natAbs:Int)*(b.natAbs:Int):=by rw[o3,Ub];simp[Jg]
 have h3:=J0 (neg := !(decide (a<0)==decide (b<0))) o2 (by omega);rw[Zjl a b out hv,o1] at h3;exact Zls na xs nb ys a b k1 k2 out _ (by rw[beq_eq_false_iff_ne];omega) (by rw[beq_eq_false_iff_ne];omega) (by rw[e1];omega) (by rw[e2,U1];exact o4) (by rw[e2];exact h3)
def TWC:Jx:=TWB
theorem Z9:Qn Yir TWC:=Zp
end Go.Proofs.Ythdpfjffdipipaa

namespace Go.Proofs.Ythdpfjffdipipaa
open Go.IntKind (i64 u64 u32)
open Go.Ai
set_option maxRecDepth 100000
def Zrd (na:Bool) (xs:List Int) (w:Int) (s:Int) (k:Nat) (os:List Int) (n:Int) (i:Int) (z:Rn):Zg:=(dds 4 (.box [.bool z.1,.sl z.2.length (lm z.2)]::(.val (.bool na)::(dds 1 (.val (.int .i64 w)::(.val (.int .u64 s)::(.own 1 k (lm os)::(dds 23 (.val (.sl xs.length (lm xs))::(.val (.int .i64 n)::(.val (.int .i64 i)::(dds 31 []))))))))))))
theorem Yk79_1 (na:Bool) (xs:List Int) (w:Int) (s:Int) (k:Nat) (os:List Int) (n:Int) (i:Int) (z:Rn)  (c1:(decide (i<n))=true) (n1:0<=i/\i<(xs.length:Int)) (n2:¬ s<0) (n3:0<=(i64.wrap (i+w))/\(i64.wrap (i+w))<(k:Int)) (n4:os.length=k) (n5:0<=(i64.wrap ((i64.wrap (i+w))+1))/\(i64.wrap ((i64.wrap (i+w))+1))<(k:Int)) (n6:(os.set (Int.toNat (i64.wrap (i+w))) (u32.wrap ((BitVec.ofInt (IntKind.bits .u32) (os.getD (Int.toNat (i64.wrap (i+w))) 0) ||| BitVec.ofInt (IntKind.bits .u32) (u32.wrap (u64.wrap ((u64.wrap (xs.getD (Int.toNat i) 0))*2^(min (Int.toNat s) (IntKind.bits .u64)))))).toNat))).length=k):Za Yir Yc79 (Zrd na xs w s k os n i z) .norm (Zrd na xs w s k ((os.set (Int.toNat (i64.wrap (i+w))) (u32.wrap ((BitVec.ofInt (IntKind.bits .u32) (os.getD (Int.toNat (i64.wrap (i+w))) 0) ||| BitVec.ofInt (IntKind.bits .u32) (u32.wrap (u64.wrap ((u64.wrap (xs.getD (Int.toNat i) 0))*2^(min (Int.toNat s) (IntKind.bits .u64)))))).toNat))).set (Int.toNat (i64.wrap ((i64.wrap (i+w))+1))) (u32.wrap (Int.fdiv (u64.wrap ((u64.wrap (xs.getD (Int.toNat i) 0))*2^(min (Int.toNat s) (IntKind.bits .u64)))) (2^(min (Int.toNat 32) (IntKind.bits .u64)))))) n (i64.wrap (i+1)) z):=(Za.go Z9 400 [.b true,.v (.int .u32 (xs.getD (Int.toNat i) 0)),.v (.int .u32 (os.getD (Int.toNat (i64.wrap (i+w))) 0)),.l (lm (os.set (Int.toNat (i64.wrap (i+w))) (u32.wrap ((BitVec.ofInt (IntKind.bits .u32) (os.getD (Int.toNat (i64.wrap (i+w))) 0) ||| BitVec.ofInt (IntKind.bits .u32) (u32.wrap (u64.wrap ((u64.wrap (xs.getD (Int.toNat i) 0))*2^(min (Int.toNat s) (IntKind.bits .u64)))))).toNat)))),.l (lm ((os.set (Int.toNat (i64.wrap (i+w))) (u32.wrap ((BitVec.ofInt (IntKind.bits .u32) (os.getD (Int.toNat (i64.wrap (i+w))) 0) ||| BitVec.ofInt (IntKind.bits .u32) (u32.wrap (u64.wrap ((u64.wrap (xs.getD (Int.toNat i) 0))*2^(min (Int.toNat s) (IntKind.bits .u64)))))).toNat))).set (Int.toNat (i64.wrap ((i64.wrap (i+w))+1))) (u32.wrap (Int.fdiv (u64.wrap ((u64.wrap (xs.getD (Int.toNat i) 0))*2^(min (Int.toNat s) (IntKind.bits .u64)))) (2^(min (Int.toNat 32) (IntKind.bits .u64)))))))] [4,5,7,8,9,33,34,35] (ac c1 (ac n1 (ac (Qe n1) (ac n2 (ac n3 (ac (Jz n4 n3) (ac n3 (ac (show U4 (lm os) (Int.toNat (i64.wrap (i+w))*1) [.int .u32 (u32.wrap ((BitVec.ofInt (IntKind.bits .u32) (os.getD (Int.toNat (i64.wrap (i+w))) 0) ||| BitVec.ofInt (IntKind.bits .u32) (u32.wrap (u64.wrap ((u64.wrap (xs.getD (Int.toNat i) 0))*2^(min (Int.toNat s) (IntKind.bits .u64)))))).toNat))]=some (lm (os.set (Int.toNat (i64.wrap (i+w))) (u32.wrap ((BitVec.ofInt (IntKind.bits .u32) (os.getD (Int.toNat (i64.wrap (i+w))) 0) ||| BitVec.ofInt (IntKind.bits .u32) (u32.wrap (u64.wrap ((u64.wrap (xs.getD (Int.toNat i) 0))*2^(min (Int.toNat s) (IntKind.bits .u64)))))).toNat)))) from (Xi n4 n3)) (ac (show ¬ (32:Int)<0 from (by decide)) (ac n5 (ac (show U4 (lm (os.set (Int.toNat (i64.wrap (i+w))) (u32.wrap ((BitVec.ofInt (IntKind.bits .u32) (os.getD (Int.toNat (i64.wrap (i+w))) 0) ||| BitVec.ofInt (IntKind.bits .u32) (u32.wrap (u64.wrap ((u64.wrap (xs.getD (Int.toNat i) 0))*2^(min (Int.toNat s) (IntKind.bits .u64)))))).toNat)))) (Int.toNat (i64.wrap ((i64.wrap (i+w))+1))*1) [.int .u32 (u32.wrap (Int.fdiv (u64.wrap ((u64.wrap (xs.getD (Int.toNat i) 0))*2^(min (Int.toNat s) (IntKind.bits .u64)))) (2^(min (Int.toNat 32) (IntKind.bits .u64)))))]=some (lm ((os.set (Int.toNat (i64.wrap (i+w))) (u32.wrap ((BitVec.ofInt (IntKind.bits .u32) (os.getD (Int.toNat (i64.wrap (i+w))) 0) ||| BitVec.ofInt (IntKind.bits .u32) (u32.wrap (u64.wrap ((u64.wrap (xs.getD (Int.toNat i) 0))*2^(min (Int.toNat s) (IntKind.bits .u64)))))).toNat))).set (Int.toNat (i64.wrap ((i64.wrap (i+w))+1))) (u32.wrap (Int.fdiv (u64.wrap ((u64.wrap (xs.getD (Int.toNat i) 0))*2^(min (Int.toNat s) (IntKind.bits .u64)))) (2^(min (Int.toNat 32) (IntKind.bits .u64))))))) from (Xi n6 n5)) a0))))))))))))
theorem Yk79_2 (na:Bool) (xs:List Int) (w:Int) (s:Int) (k:Nat) (os:List Int) (n:Int) (i:Int) (z:Rn)  (c1:(decide (i<n))=false):Za Yir Yc79 (Zrd na xs w s k os n i z) (.exit 0) (Zrd na xs w s k os n i z):=(Za.go Z9 400 [.b false] [4,5,7,8,9,33,34,35] (ac c1 a0))
theorem Zlr (b na:Bool) (xs as1:List Int) (m:Int) (c1:((as1.length:Int)==0)=true) (n1:Zc Yir 75 [.agg [.bool b,.sl xs.length (lm xs)]] (.tup [.bool na,.sl as1.length (lm as1)])):Zc Yir 79 [.agg [.bool b,.sl xs.length (lm xs)],.int .i64 m] (.agg [.bool false,.sl 0 []]):=Zc.of_bodyW (fn:=Zwf) (s:=(dds 4 (.box [.bool false,.sl 0 []]::(dds 62 [])))) (ex := .ret) rfl rfl (Za.asc (Za.asc (Za.asc (Za.asc (Za.csi (Za.seq_out (Za.go Z9 400 [.r (.tup [.bool na,.sl as1.length (lm as1)]),.b true] [4] (ac n1 (ac c1 a0))) (by nofun))))))) (by nofun) rfl
theorem Zlq (b na:Bool) (xs as1 os:List Int) (m w s n i v:Int) (k:Nat) (z:Rn) (c1:((as1.length:Int)==0)=false) (n1:Zc Yir 75 [.agg [.bool b,.sl xs.length (lm xs)]] (.tup [.bool na,.sl as1.length (lm as1)])) (n2:0<=(i64.wrap ((i64.wrap ((as1.length:Int)+(i64.wrap (Int.tdiv m 32))))+1))/\(i64.wrap ((i64.wrap ((as1.length:Int)+(i64.wrap (Int.tdiv m 32))))+1))<=1048576) (hl3:Za Yir (.loop Yc79) ((dds 4 (.box [.bool false,.sl 0 []]::(.val (.bool na)::(dds 1 (.val (.int .i64 (i64.wrap (Int.tdiv m 32)))::(.val (.int .u64 (u64.wrap (Int.tmod m 32)))::(.own 1 (Int.toNat (i64.wrap ((i64.wrap ((as1.length:Int)+(i64.wrap (Int.tdiv m 32))))+1))) (J3 [.int .u32 0] (Int.toNat (i64.wrap ((i64.wrap ((as1.length:Int)+(i64.wrap (Int.tdiv m 32))))+1))))::(dds 23 (.val (.sl as1.length (lm as1))::(.val (.int .i64 (as1.length:Int))::(.val (.int .i64 0)::(dds 31 []))))))))))))) (.exit 0) (Zrd na as1 w s k os n i z)) (n4:Zc Yir 113 [.bool na,.sl k (lm os)] (Zi v)):Zc Yir 79 [.agg [.bool b,.sl xs.length (lm xs)],.int .i64 m] (Zi v):=Zc.of_bodyW (fn:=Zwf) (s:=(dds 4 (.box [.bool (decide (v<0)),.sl ((Zb (Int.natAbs v)).length) (lm (Zb (Int.natAbs v)))]::(dds 62 [])))) (ex := .ret) rfl rfl (Za.asc (Za.asc (Za.asc (Za.asc (Za.csi (Za.seq (Za.go Z9 400 [.r (.tup [.bool na,.sl as1.length (lm as1)]),.b false] [4,5,7,8,9,33,34,35] (ac n1 (ac c1 (ac (show ¬ (32:Int)=0 from (by decide)) (ac (show ¬ (32:Int)=0 from (by decide)) (ac n2 a0)))))) (Za.seq (Za.block hl3) (Za.go Z9 400 [.r (Zi v)] [4] (ac n4 a0))))))))) (by nofun) rfl
def Zpo (ts:List Rn) (r:Rn) (e:Int) (w:Rn) (i:Int) (s:Int):Zg:=(.val (.sl ts.length (pc ts))::(dds 2 (.box [.bool r.1,.sl r.2.length (lm r.2),.int .i64 e]::(dds 1 (.box [.bool w.1,.sl w.2.length (lm w.2)]::(.val (.int .i64 i)::(.val (.int .i64 s)::(dds 24 []))))))))
theorem Yk38_1 (ts:List Rn) (r:Rn) (e:Int) (w:Rn) (i:Int) (s:Int) (t:Int) (c1:(decide (i>=0))=true) (n1:0<=i/\i<(ts.length:Int)) (n2:Zc Yir 78 [Z4 w,Z4 r] (Zi ((Ze w)*(Ze r)))) (n3:Zc Yir 79 [Z4 (ts.getD (Int.toNat i) z0),.int .i64 s] (Zi t)) (n4:Zc Yir 77 [Zi ((Ze w)*(Ze r)),Zi t] (Zi (((Ze w)*(Ze r))+t))):Za Yir Yc38 (Zpo ts r e w i s) .norm (Zpo ts r e (cn (((Ze w)*(Ze r))+t)) (i64.wrap (i-1)) (i64.wrap (s+e))):=(Za.go Z9 400 [.b true,.r (Zi ((Ze w)*(Ze r))),.v (Z4 (ts.getD (Int.toNat i) z0)),.r (Zi t),.r (Zi (((Ze w)*(Ze r))+t))] [0,3,5,6,7] (ac c1 (ac n2 (ac n1 (ac (Jy n1) (ac n3 (ac n4 a0)))))))
theorem Yk38_2 (ts:List Rn) (r:Rn) (e:Int) (w:Rn) (i:Int) (s:Int)  (c1:(decide (i>=0))=false):Za Yir Yc38 (Zpo ts r e w i s) (.exit 0) (Zpo ts r e w i s):=(Za.go Z9 400 [.b false] [0,3,5,6,7] (ac c1 a0))
theorem Yrun38 (ts:List Rn) (r w:Rn) (e i s sg:Int) (hl1:Za Yir (.loop Yc38) (Zpo ts r e (false,[]) (i64.wrap ((ts.length:Int)-1)) 0) (.exit 0) (Zpo ts r e w i s)) (n2:Zc Yir 74 [Z4 w] (.int .i64 sg)):Zc Yir 38 [.sl ts.length (pc ts),.agg [.bool r.1,.sl r.2.length (lm r.2),.int .i64 e]] (.int .i64 sg):=Zc.of_bodyW (fn:=Yi38) (s:=(dds 4 (.val (.int .i64 sg)::(dds 27 [])))) (ex := .ret) rfl rfl (Za.asc (Za.csi (Za.seq (Za.go Z9 400 [] [0,3,5,6,7] a0) (Za.seq (Za.block hl1) (Za.go Z9 400 [.r (.int .i64 sg)] [4] (ac n2 a0)))))) (by nofun) rfl
end Go.Proofs.Ythdpfjffdipipaa

namespace Go.Proofs.Ythdpfjffdipipaa
open Go.IntKind (i64 u64 u32)
open Go.Ai
set_option maxRecDepth 100000
theorem Zr0 {na:Bool} {xs:List Int} {z:Rn} {w s:Nat} (hx:U32 xs) (hs:s<32) (hN:w+xs.length<1048576):∀ (r i:Nat) (os:List Int),i+r=xs.length->os.length=w+xs.length+1->U32 os->Zn os=4294967296^w*(2^s*Zn (xs.take i))->os.getD (i+w) 0<2^s->(∀ t,i+w<t->os.getD t 0=0) ->
  ∃ os',Za Yir (.loop Yc79) (Zrd na xs (w:Nat) (s:Nat) (w+xs.length+1) os (xs.length:Nat) (i:Nat) z) (.exit 0) (Zrd na xs (w:Nat) (s:Nat) (w+xs.length+1) os' (xs.length:Nat) (xs.length:Nat) z)/\os'.length=w+xs.length+1/\U32 os'/\Zn os'=4294967296^w*(2^s*Zn xs):=by
 intro r;induction r with
 | zero =>
  intro i os hi hl hu hv _ _;have:i=xs.length:=by omega
  subst this;exact⟨os,Za.loop_out (Yk79_2 na xs _ _ _ os _ _ z (by simp)) (by nofun),hl,hu,by rw[hv,List.take_length]⟩
 | succ r ih =>
  intro i os hi hl hu hv hc hz;have ei:i64.wrap ((i:Int)+1)=((i+1:Nat):Int):=by rw[w64 (by omega) (by omega)];omega
  have ew:i64.wrap ((i:Int)+(w:Int))=((i+w:Nat):Int):=by rw[w64 (by omega) (by omega)];omega
  have ew1:i64.wrap (((i+w:Nat):Int)+1)=((i+w+1:Nat):Int):=by rw[w64 (by omega) (by omega)];omega
  have hxi:=Zx hx i;have hoi:=Zx hu (i+w);obtain⟨p0,p1,p2,q,q0,q1⟩:=Lk hxi hs;have es:(2:Int)^(min (Int.toNat (s:Int)) (IntKind.bits .u64))=2^s:=by
   rw[Int.toNat_natCast];congr 1;show min s 64=s;omega
  have hk:=Yk79_1 na xs (w:Nat) (s:Nat) (w+xs.length+1) os (xs.length:Nat) (i:Nat) z (by simp;omega) (by omega) (by omega) (by rw[ew];omega) hl (by rw[ew,ew1];omega) (by simpa using hl);rw[ei,ew,ew1,es,Int.toNat_natCast,Int.toNat_natCast,Int.toNat_natCast,Wu (n:=xs.getD i 0) (by omega),Wu ⟨p0,p1⟩,fd32,H9 (xs.getD i 0*2^s),q1] at hk;have hqs:q*2^s<4294967296:=by rw[<- q1];omega
  rw[or32 q0 hqs (by omega) ⟨hoi.1,hc⟩] at hk;have hhi:0<=xs.getD i 0*2^s / 4294967296:=by omega
  have hp2:(2:Int)^s<=4294967296:=by have:=Wz (show s<=32 by omega);rwa [show (2:Int)^32=4294967296 by decide] at this
  rw[w32 ⟨hhi,by omega⟩] at hk;have hsum:0<=q*2^s+os.getD (i+w) 0/\q*2^s+os.getD (i+w) 0<4294967296:=by
   have hq2:0<=q*2^s:=by rw[<- q1];omega
   refine⟨by omega,?_⟩;have e:=Zoy (show s<=32 by omega);rw[e] at hqs |-;have hp:=Qc s;have:=Int.lt_of_mul_lt_mul_right hqs (by omega);have:=Int.mul_le_mul_of_nonneg_right (show q+1<=2^(32-s) by omega) (show (0:Int)<=2^s by omega);rw[Int.add_mul,Int.one_mul] at this;omega
  obtain⟨os',g1,g2,g3,g4⟩:=ih (i+1) ((os.set (i+w) (q*2^s+os.getD (i+w) 0)).set (i+w+1) (xs.getD i 0*2^s / 4294967296)) (by omega) (by simpa using hl) (Jf (Jf hu hsum) ⟨hhi,by omega⟩) (by
    rw[Xd _ _ _ (by simp;omega),Xd _ _ _ (by omega),Qm (by omega),hz (i+w+1) (by omega),hv,Jt xs i (by omega),Int.pow_succ,Int.pow_add];have e3:xs.getD i 0*2^s=4294967296*(xs.getD i 0*2^s / 4294967296)+q*2^s:=by omega
    generalize (4294967296:Int)^i=P at *
    generalize (4294967296:Int)^w=V at *
    generalize xs.getD i 0*2^s / 4294967296=H at *
    generalize os.getD (i+w) 0=o at *
    generalize q*2^s=Q at *
    have e4:(2:Int)^s*(Zn (xs.take i)+P*xs.getD i 0)=2^s*Zn (xs.take i)+P*(xs.getD i 0*2^s):=by grind
    rw[e4,e3];grind) (by
    rw[show i+1+w=i+w+1 by omega,show ((os.set (i+w) (q*2^s+os.getD (i+w) 0)).set (i+w+1) (xs.getD i 0*2^s / 4294967296)).getD (i+w+1) 0=xs.getD i 0*2^s / 4294967296 by simp[List.getD_eq_getElem?_getD,show i+w+1<os.length by omega]];exact p2) (fun t ht=>by rw[Qm (by omega),Qm (by omega)];exact hz t (by omega))
  exact⟨os',Za.loop hk g1,g2,g3,g4⟩
theorem N3 {neg:Bool} {xs:List Int} (hu:U32 xs) (n:Nat) (hn:n<=9223372036854775807) (hN:n / 32+xs.length+1<=1048576):Zc Yir 79 [.agg [.bool neg,.sl xs.length (lm xs)],.int .i64 (n:Nat)] (Zi (rv neg xs*2^n)):=by
 have l1:=Vl (neg:=neg) hu;have r1:=Qv (neg:=neg) hu (by omega);generalize rv neg xs=a at *
 by_cases h0:(Zb a.natAbs).length=0
 ·have h:=Zlr neg _ xs (Zb a.natAbs) (n:Nat) (by rw[h0];rfl) r1;have ha:a=0:=by have:=(Ju a.natAbs).1 h0;omega
  rw[ha,Int.zero_mul];exact h
 ·have e1:i64.wrap (Int.tdiv (n:Int) 32)=((n / 32:Nat):Int):=by
   rw[Int.tdiv_eq_ediv_of_nonneg (by omega),w64 (by omega) (by omega)];omega
  have e2:u64.wrap (Int.tmod (n:Int) 32)=((n % 32:Nat):Int):=by
   rw[Int.tmod_eq_emod_of_nonneg (by omega),Wu (by omega)];omega
  have e3:i64.wrap ((((Zb a.natAbs).length:Nat):Int)+((n / 32:Nat):Int))=((n / 32+(Zb a.natAbs).length:Nat):Int):=by rw[w64 (by omega) (by omega)];omega
  have e4:i64.wrap (((n / 32+(Zb a.natAbs).length:Nat):Int)+1)=((n / 32+(Zb a.natAbs).length+1:Nat):Int):=by rw[w64 (by omega) (by omega)];omega
  have hs:n % 32<32:=Nat.mod_lt _ (by decide);obtain⟨os,g1,g2,g3,g4⟩:=Zr0 (na:=decide (a<0)) (xs:=Zb a.natAbs) (z:=z0) (w:=n / 32) (Q6 a.natAbs) hs (by omega) (Zb a.natAbs).length 0 (List.replicate (n / 32+(Zb a.natAbs).length+1) 0) (by omega) (by simp) (X2 _) (by rw[Ub];simp[Zn]) (by rw[J8];exact Qc _) (fun t _=>J8 _ _);have hm:=J0 (neg:=decide (a<0)) g3 (by omega);have hv:rv (decide (a<0)) os=a*2^n:=by
   rw[Tx (xs:=Zb a.natAbs) (t:=2^n) (by rw[g4,Vr n];grind),W9]
  rw[hv,g2] at hm;exact Zlq neg _ xs (Zb a.natAbs) os (n:Nat) _ _ _ _ _ _ _ (by rw[beq_eq_false_iff_ne];omega) r1 (by rw[e1,e3,e4];omega) (by rw[e1,e2,e3,e4,Int.toNat_natCast,U1];exact g1) hm
theorem Zr2 {K X:Nat} {ts:List Rn} {r:Rn} (ht:∀ t∈ts,Ji K t) (hr:Ji X r) (e:Nat) (hS:K+2+(ts.length+1)*(X+(e / 32+1)+1)<=1048576) (he:e<=1073741824) :
  ∀ n (w:Rn),n<=ts.length->Ze w=hv ((Zf ts).drop n) (Ze r) (2^e)->Ji (K+1+(ts.length-n)*(X+(e / 32+1)+1)) w -> 
  ∃ w' s',Ze w'=hv (Zf ts) (Ze r) (2^e)/\Ji (K+1+ts.length*(X+(e / 32+1)+1)) w'/\Za Yir (.loop Yc38) (Zpo ts r (e:Nat) w ((n:Int)-1) ((e*(ts.length-n):Nat):Int)) (.exit 0) (Zpo ts r (e:Nat) w' (-1) s'):=by
 have hle:ts.length<=1048576:=by
  have:ts.length*1<=(ts.length+1)*(X+(e / 32+1)+1):=Nat.mul_le_mul (by omega) (by omega);omega
 intro n;induction n with
 | zero =>
  intro w _ hw gw;exact⟨w,_,by simpa using hw,gw,Za.loop_out (Yk38_2 ts r (e:Nat) w (((0:Nat):Int)-1) _ (by simp)) (by nofun)⟩
 | succ n ih =>
  intro w hn hw gw;obtain⟨t1,t2⟩:=Qh ht n;have e0:((n+1:Nat):Int)-1=(n:Int):=by omega
  have hK1:(ts.length-(n+1))*(X+(e / 32+1)+1)+(X+(e / 32+1)+1)=(ts.length-n)*(X+(e / 32+1)+1):=by
   rw[show ts.length-n=ts.length-(n+1)+1 by omega,Nat.add_mul,Nat.one_mul]
  have hK2:(ts.length-n)*(X+(e / 32+1)+1)<=(ts.length+1)*(X+(e / 32+1)+1):=Nat.mul_le_mul_right _ (by omega);have hsh:e*(ts.length-(n+1)) / 32<=(ts.length-(n+1))*(X+(e / 32+1)+1):=by
   have h3:e<=32*(e / 32+1):=by omega
   have h4:e*(ts.length-(n+1))<=32*((ts.length-(n+1))*(e / 32+1)):=by
    calc e*(ts.length-(n+1))<=(32*(e / 32+1))*(ts.length-(n+1)):=Nat.mul_le_mul_right _ h3
     _=32*((ts.length-(n+1))*(e / 32+1)):=by rw[Nat.mul_assoc,Nat.mul_comm (e / 32+1)]
   have h5:(ts.length-(n+1))*(e / 32+1)<=(ts.length-(n+1))*(X+(e / 32+1)+1):=Nat.mul_le_mul_left _ (by omega);omega
  have hb1:e*(ts.length-(n+1))<=1073741824*1048576:=Nat.mul_le_mul he (by omega);have hb2:e*(ts.length-n)<=1073741824*1048576:=Nat.mul_le_mul he (by omega);have w1:i64.wrap (((e*(ts.length-(n+1)):Nat):Int)+(e:Int))=((e*(ts.length-n):Nat):Int):=by
   have:e*(ts.length-n)=e*(ts.length-(n+1))+e:=by rw[show ts.length-n=ts.length-(n+1)+1 by omega,Nat.mul_succ]
   rw[w64 (by omega) (by omega)];omega
  have w2:i64.wrap ((n:Int)-1)=(n:Int)-1:=w64 (by omega) (by omega);have hst:hv ((Zf ts).drop n) (Ze r) (2^e)=Ze w*Ze r+Ze (ts.getD n z0)*2^(e*(ts.length-(n+1))):=by
   have h1:(Zf ts).drop n=(Zf ts).getD n 0::(Zf ts).drop (n+1):=by
    rw[List.drop_eq_getElem_cons (by rw[Zu];omega)];congr 1;rw[List.getD_eq_getElem?_getD,List.getElem?_eq_getElem (by rw[Zu];omega)];rfl
   rw[h1,hv,Je,List.length_drop,Zu,<- hw,<- Int.pow_mul];generalize Ze (ts.getD n z0)*2^(e*(ts.length-(n+1)))=A;grind
  have fw:=gw.fits;have fp:=(fw.mul hr.fits);have ft:Jo (K+(e*(ts.length-(n+1)) / 32+1)) (Ze (ts.getD n z0)*2^(e*(ts.length-(n+1)))):=(Qh ht n).fits.mul (Zfj _);have hgood:Ji (K+1+(ts.length-n)*(X+(e / 32+1)+1)) (cn (Ze w*Ze r+Ze (ts.getD n z0)*2^(e*(ts.length-(n+1))))):=by
   refine (Q5 ((fp.mono (k:=K+1+(ts.length-(n+1))*(X+(e / 32+1)+1)+X+(e / 32+1)) (by omega)).add (ft.mono (by omega)))).mono (by omega)
  obtain⟨w',s',q1,q2,q3⟩:=ih (cn (Ze w*Ze r+Ze (ts.getD n z0)*2^(e*(ts.length-(n+1))))) (by omega) (by rw[Zv,hst]) hgood;refine⟨w',s',q1,q2,?_⟩;rw[e0];have l1:=fp.len;have l2:=ft.len;obtain⟨gw1,gw2⟩:=gw;have k:=Yk38_1 ts r (e:Nat) w (n:Nat) ((e*(ts.length-(n+1)):Nat):Int) (Ze (ts.getD n z0)*2^(e*(ts.length-(n+1)))) (by simp) (by omega)
   (N4 gw1 hr.1 (by have:=hr.2;omega))
   (by rw[Int.toNat_natCast];exact N3 t1 _ (by omega) (by omega))
   (by
    have:=D8 (na:=decide (Ze w*Ze r<0)) (nb:=decide (Ze (ts.getD n z0)*2^(e*(ts.length-(n+1)))<0)) (Q6 (Ze w*Ze r).natAbs) (Q6 (Ze (ts.getD n z0)*2^(e*(ts.length-(n+1)))).natAbs) (by omega) (by omega);rw[W9,W9] at this;exact this)
  rw[w1,w2] at k;exact Za.loop k q3
theorem Gr {K X:Nat} {rs:List Rn} {r:Rn} (ht:∀ t∈rs,Ji K t) (hr:Ji X r) (e:Nat) (hS:K+2+(rs.length+1)*(X+(e / 32+1)+1)<=1048576) (he:e<=1073741824) :
  Zc Yir 38 [.sl rs.length (pc rs),.agg [.bool r.1,.sl r.2.length (lm r.2),.int .i64 (e:Nat)]] (.int .i64 (Wa (hv (Zf rs) (Ze r) (2^e)))):=by
 have hle:rs.length<=1048576:=by
  have:rs.length*1<=(rs.length+1)*(X+(e / 32+1)+1):=Nat.mul_le_mul (by omega) (by omega);omega
 obtain⟨w',s',q1,q2,q3⟩:=Zr2 ht hr e hS he rs.length z0 (Nat.le_refl _) (by rw[<- Zu,List.drop_length];rfl) (Az _);rw[Nat.sub_self,Nat.mul_zero] at q3;have hK2:rs.length*(X+(e / 32+1)+1)<=(rs.length+1)*(X+(e / 32+1)+1):=Nat.mul_le_mul_right _ (by omega);have hs:=Kl (neg:=w'.1) q2.1 (by have:=q2.2;omega);rw[show rv w'.1 w'.2=Ze w' from rfl,q1] at hs;have e1:i64.wrap ((rs.length:Int)-1)=(rs.length:Int)-1:=w64 (by omega) (by omega);exact Yrun38 rs r w' (e:Nat) (-1) s' _ (by rw[e1];exact q3) hs
end Go.Proofs.Ythdpfjffdipipaa

namespace Go.Proofs.Ythdpfjffdipipaa
open Go.IntKind (i64 u64 u32)
open Go.Ai
set_option maxRecDepth 100000
def Ziy (as1:List Rn) (k:Nat) (cs:List AV) (bs:List Rn):Zg:=(dds 3 (.val (.sl as1.length (pc as1))::(.own 1 k cs::(.val (.sl bs.length (pc bs))::(dds 23 [])))))
theorem Yk48_1 (as1:List Rn) (k:Nat) (cs:List AV) (bs:List Rn) (us vs:List Rn) (c1:(decide ((bs.length:Int)>0))=true) (n1:k+1<=1048576) (n2:Zc Yir 69 [.sl as1.length (pc as1),.sl bs.length (pc bs)] (.fresh 2 us.length (pc us))) (n3:Zc Yir 86 [.sl us.length (pc us)] (.fresh 2 vs.length (pc vs))):Za Yir Zwr (Ziy as1 k cs bs) .norm (Ziy bs (k+1) (cs++([.sl bs.length (pc bs)]:List AV)) vs):=(Za.go Zk 400 [.b true,.r (.fresh 2 us.length (pc us)),.r (.fresh 2 vs.length (pc vs))] [3,4,5] (ac c1 (ac (show List.length ([.sl bs.length (pc bs)]:List AV)=1*1 from rfl) (ac n1 (ac n2 (ac n3 a0))))))
theorem Zpw (as1:List Rn) (k:Nat) (cs:List AV) (bs:List Rn)  (c1:(decide ((bs.length:Int)>0))=false):Za Yir Zwr (Ziy as1 k cs bs) (.exit 0) (Ziy as1 k cs bs):=(Za.go Zk 400 [.b false] [3,4,5] (ac c1 a0))
theorem Zco (rs fs:List Rn) (c1:((fs.length:Int)==0)=true) (n1:Zc Yir 72 [.sl rs.length (pc rs)] (.fresh 2 fs.length (pc fs))):Zc Yir 48 [.sl rs.length (pc rs)] (.fresh 1 0 []):=Zc.of_bodyW (fn:=Zpy) (s:=(dds 2 (.own 1 0 []::(dds 26 [])))) (ex := .ret) rfl rfl (Za.asc (Za.asc (Za.asc (Za.asc (Za.seq_out (Za.go Zk 400 [.r (.fresh 2 fs.length (pc fs)),.b true] [2] (ac n1 (ac c1 a0))) (by nofun)))))) (by nofun) rfl
theorem Zcn (rs fs ds ps as1 bs:List Rn) (ls:List (List Rn)) (c1:((fs.length:Int)==0)=false) (n1:Zc Yir 72 [.sl rs.length (pc rs)] (.fresh 2 fs.length (pc fs))) (n2:Zc Yir 85 [.sl fs.length (pc fs)] (.fresh 2 ds.length (pc ds))) (n3:Zc Yir 73 [.sl ds.length (pc ds)] (.fresh 2 ps.length (pc ps))) (hl4:Za Yir (.loop Zwr) (Ziy fs 1 ([.sl fs.length (pc fs)]:List AV) ps) (.exit 0) (Ziy as1 ls.length (pp ls) bs)):Zc Yir 48 [.sl rs.length (pc rs)] (.fresh 1 ls.length (pp ls)):=Zc.of_bodyW (fn:=Zpy) (s:=(dds 2 (.own 1 ls.length (pp ls)::(dds 26 [])))) (ex := .ret) rfl rfl (Za.asc (Za.asc (Za.asc (Za.asc (Za.seq (Za.go Zk 400 [.r (.fresh 2 fs.length (pc fs)),.b false,.r (.fresh 2 ds.length (pc ds)),.r (.fresh 2 ps.length (pc ps))] [3,4,5] (ac n1 (ac c1 (ac n2 (ac n3 a0))))) (Za.seq (Za.block hl4) (Za.go Zk 400 [] [2] a0))))))) (by nofun) rfl
theorem Zcm (rs fs:List Rn) (c1:((fs.length:Int)==0)=true) (n1:Zc Yir 72 [.sl rs.length (pc rs)] (.sl fs.length (pc fs))):Zc Yir 48 [.sl rs.length (pc rs)] (.fresh 1 0 []):=Zc.of_bodyW (fn:=Zpy) (s:=(dds 2 (.own 1 0 []::(dds 26 [])))) (ex := .ret) rfl rfl (Za.asc (Za.asc (Za.asc (Za.asc (Za.seq_out (Za.go Zk 400 [.r (.sl fs.length (pc fs)),.b true] [2] (ac n1 (ac c1 a0))) (by nofun)))))) (by nofun) rfl
theorem Zcl (rs fs ds ps as1 bs:List Rn) (ls:List (List Rn)) (c1:((fs.length:Int)==0)=false) (n1:Zc Yir 72 [.sl rs.length (pc rs)] (.sl fs.length (pc fs))) (n2:Zc Yir 85 [.sl fs.length (pc fs)] (.fresh 2 ds.length (pc ds))) (n3:Zc Yir 73 [.sl ds.length (pc ds)] (.fresh 2 ps.length (pc ps))) (hl4:Za Yir (.loop Zwr) (Ziy fs 1 ([.sl fs.length (pc fs)]:List AV) ps) (.exit 0) (Ziy as1 ls.length (pp ls) bs)):Zc Yir 48 [.sl rs.length (pc rs)] (.fresh 1 ls.length (pp ls)):=Zc.of_bodyW (fn:=Zpy) (s:=(dds 2 (.own 1 ls.length (pp ls)::(dds 26 [])))) (ex := .ret) rfl rfl (Za.asc (Za.asc (Za.asc (Za.asc (Za.seq (Za.go Zk 400 [.r (.sl fs.length (pc fs)),.b false,.r (.fresh 2 ds.length (pc ds)),.r (.fresh 2 ps.length (pc ps))] [3,4,5] (ac n1 (ac c1 (ac n2 (ac n3 a0))))) (Za.seq (Za.block hl4) (Za.go Zk 400 [] [2] a0))))))) (by nofun) rfl
def Za3 (ls:List (List Rn)) (r:Rn) (e:Int) (n:Int) (last:Int) (m:Int) (i:Int):Zg:=(dds 3 (.box [.bool r.1,.sl r.2.length (lm r.2),.int .i64 e]::(dds 1 (.val (.int .i64 n)::(.val (.int .i64 last)::(dds 3 (.val (.sl ls.length (pp ls))::(.val (.int .i64 m)::(.val (.int .i64 i)::(dds 24 []))))))))))
theorem Yk52_1 (ls:List (List Rn)) (r:Rn) (e:Int) (n:Int) (last:Int) (m:Int) (i:Int) (s:Int) (c1:(decide (i<m))=true) (c2:(s != 0)=true) (c3:(last != 0)=true) (c4:(s != last)=true) (n1:0<=i/\i<(ls.length:Int)) (n2:Zc Yir 38 [.sl ((ls.getD (Int.toNat i) []).length) (pc (ls.getD (Int.toNat i) [])),.agg [.bool r.1,.sl r.2.length (lm r.2),.int .i64 e]] (.int .i64 s)):Za Yir Zpz (Za3 ls r e n last m i) .norm (Za3 ls r e (i64.wrap (n+1)) s m (i64.wrap (i+1))):=(Za.go Zk 400 [.b true,.v (.sl ((ls.getD (Int.toNat i) []).length) (pc (ls.getD (Int.toNat i) []))),.r (.int .i64 s),.b true,.b true,.b true,.b true] [3,5,6,10,11,12] (ac c1 (ac n1 (ac (V3 n1) (ac n2 (ac c2 (ac c3 (ac c4 (ac c2 a0)))))))))
theorem Yk52_2 (ls:List (List Rn)) (r:Rn) (e:Int) (n:Int) (last:Int) (m:Int) (i:Int) (s:Int) (c1:(decide (i<m))=true) (c2:(s != 0)=true) (c3:(last != 0)=true) (c4:(s != last)=false) (n1:0<=i/\i<(ls.length:Int)) (n2:Zc Yir 38 [.sl ((ls.getD (Int.toNat i) []).length) (pc (ls.getD (Int.toNat i) [])),.agg [.bool r.1,.sl r.2.length (lm r.2),.int .i64 e]] (.int .i64 s)):Za Yir Zpz (Za3 ls r e n last m i) .norm (Za3 ls r e n s m (i64.wrap (i+1))):=(Za.go Zk 400 [.b true,.v (.sl ((ls.getD (Int.toNat i) []).length) (pc (ls.getD (Int.toNat i) []))),.r (.int .i64 s),.b true,.b true,.b false,.b true] [3,5,6,10,11,12] (ac c1 (ac n1 (ac (V3 n1) (ac n2 (ac c2 (ac c3 (ac c4 (ac c2 a0)))))))))
theorem Yk52_3 (ls:List (List Rn)) (r:Rn) (e:Int) (n:Int) (last:Int) (m:Int) (i:Int) (s:Int) (c1:(decide (i<m))=true) (c2:(s != 0)=true) (c3:(last != 0)=false) (n1:0<=i/\i<(ls.length:Int)) (n2:Zc Yir 38 [.sl ((ls.getD (Int.toNat i) []).length) (pc (ls.getD (Int.toNat i) [])),.agg [.bool r.1,.sl r.2.length (lm r.2),.int .i64 e]] (.int .i64 s)):Za Yir Zpz (Za3 ls r e n last m i) .norm (Za3 ls r e n s m (i64.wrap (i+1))):=(Za.go Zk 400 [.b true,.v (.sl ((ls.getD (Int.toNat i) []).length) (pc (ls.getD (Int.toNat i) []))),.r (.int .i64 s),.b true,.b false,.b false,.b true] [3,5,6,10,11,12] (ac c1 (ac n1 (ac (V3 n1) (ac n2 (ac c2 (ac c3 (ac (show false=false from rfl) (ac c2 a0)))))))))
theorem Yk52_4 (ls:List (List Rn)) (r:Rn) (e:Int) (n:Int) (last:Int) (m:Int) (i:Int) (s:Int) (c1:(decide (i<m))=true) (c2:(s != 0)=false) (n1:0<=i/\i<(ls.length:Int)) (n2:Zc Yir 38 [.sl ((ls.getD (Int.toNat i) []).length) (pc (ls.getD (Int.toNat i) [])),.agg [.bool r.1,.sl r.2.length (lm r.2),.int .i64 e]] (.int .i64 s)):Za Yir Zpz (Za3 ls r e n last m i) .norm (Za3 ls r e n last m (i64.wrap (i+1))):=(Za.go Zk 400 [.b true,.v (.sl ((ls.getD (Int.toNat i) []).length) (pc (ls.getD (Int.toNat i) []))),.r (.int .i64 s),.b false,.b false,.b false,.b false] [3,5,6,10,11,12] (ac c1 (ac n1 (ac (V3 n1) (ac n2 (ac c2 (ac (show false=false from rfl) (ac (show false=false from rfl) (ac c2 a0)))))))))
theorem Yk52_5 (ls:List (List Rn)) (r:Rn) (e:Int) (n:Int) (last:Int) (m:Int) (i:Int)  (c1:(decide (i<m))=false):Za Yir Zpz (Za3 ls r e n last m i) (.exit 0) (Za3 ls r e n last m i):=(Za.go Zk 400 [.b false] [3,5,6,10,11,12] (ac c1 a0))
theorem Yrun52 (ls:List (List Rn)) (r:Rn) (e n last i:Int) (hl1:Za Yir (.loop Zpz) (Za3 ls r e 0 0 (ls.length:Int) 0) (.exit 0) (Za3 ls r e n last (ls.length:Int) i)):Zc Yir 52 [.sl ls.length (pp ls),.agg [.bool r.1,.sl r.2.length (lm r.2),.int .i64 e]] (.int .i64 n):=Zc.of_bodyW (fn:=Yi52) (s:=(dds 4 (.val (.int .i64 n)::(dds 32 [])))) (ex := .ret) rfl rfl (Za.asc (Za.csi (Za.seq (Za.go Zk 400 [] [3,5,6,10,11,12] a0) (Za.seq (Za.block hl1) (Za.go Zk 400 [] [4] a0))))) (by nofun) rfl
def TZA:Jx:=TDD
theorem Zig:Qn Yir TZA:=Zk
end Go.Proofs.Ythdpfjffdipipaa

namespace Go.Proofs.Ythdpfjffdipipaa
open Go.IntKind (i64 u64 u32)
open Go.Ai
set_option maxRecDepth 100000
theorem Zdi (a b q r:Int) (hq:q=(a.natAbs:Int) / (b.natAbs:Int)) (hr:r=(a.natAbs:Int) % (b.natAbs:Int)) :
  (if (!(decide (a<0)==decide (b<0)))=true then -q else q)=Int.tdiv a b/\(if decide (a<0)=true then -r else r)=Int.tmod a b:=by
 subst hq hr;have hA:(0:Int)<=(a.natAbs:Int):=by omega
 by_cases ha:a<0 <;> by_cases hb:b<0
 ·have ea:a = -(a.natAbs:Int):=by omega
  have eb:b = -(b.natAbs:Int):=by omega
  have h1:Int.tdiv a b=(a.natAbs:Int) / (b.natAbs:Int):=by
   rw[<- Int.tdiv_eq_ediv_of_nonneg hA];conv=>lhs;rw[ea,eb,Int.neg_tdiv,Int.tdiv_neg,Int.neg_neg]
  have h2:Int.tmod a b = -((a.natAbs:Int) % (b.natAbs:Int)):=by
   rw[<- Int.tmod_eq_emod_of_nonneg hA];conv=>lhs;rw[ea,eb,Int.neg_tmod,Int.tmod_neg]
  rw[h1,h2,decide_eq_true ha,decide_eq_true hb];simp
 ·have ea:a = -(a.natAbs:Int):=by omega
  have eb:b=(b.natAbs:Int):=by omega
  have h1:Int.tdiv a b = -((a.natAbs:Int) / (b.natAbs:Int)):=by
   rw[<- Int.tdiv_eq_ediv_of_nonneg hA];conv=>lhs;rw[ea,eb,Int.neg_tdiv]
  have h2:Int.tmod a b = -((a.natAbs:Int) % (b.natAbs:Int)):=by
   rw[<- Int.tmod_eq_emod_of_nonneg hA];conv=>lhs;rw[ea,eb,Int.neg_tmod]
  rw[h1,h2,decide_eq_true ha,decide_eq_false hb];simp
 ·have ea:a=(a.natAbs:Int):=by omega
  have eb:b = -(b.natAbs:Int):=by omega
  have h1:Int.tdiv a b = -((a.natAbs:Int) / (b.natAbs:Int)):=by
   rw[<- Int.tdiv_eq_ediv_of_nonneg hA];conv=>lhs;rw[ea,eb,Int.tdiv_neg]
  have h2:Int.tmod a b=(a.natAbs:Int) % (b.natAbs:Int):=by
   rw[<- Int.tmod_eq_emod_of_nonneg hA];conv=>lhs;rw[ea,eb,Int.tmod_neg]
  rw[h1,h2,decide_eq_false ha,decide_eq_true hb];simp
 ·have ea:a=(a.natAbs:Int):=by omega
  have eb:b=(b.natAbs:Int):=by omega
  have h1:Int.tdiv a b=(a.natAbs:Int) / (b.natAbs:Int):=by
   rw[<- Int.tdiv_eq_ediv_of_nonneg hA];conv=>lhs;rw[ea,eb]
  have h2:Int.tmod a b=(a.natAbs:Int) % (b.natAbs:Int):=by
   rw[<- Int.tmod_eq_emod_of_nonneg hA];conv=>lhs;rw[ea,eb]
  rw[h1,h2,decide_eq_false ha,decide_eq_false hb];simp
theorem D7 {na nb:Bool} {xs ys:List Int} (hx:U32 xs) (hy:U32 ys) (h0:rv nb ys ≠ 0) (h1:xs.length<1048576) (h2:ys.length<1048576) :
  Zc Yir 105 [.agg [.bool na,.sl xs.length (lm xs)],.agg [.bool nb,.sl ys.length (lm ys)]] (.tup [Zi (Int.tdiv (rv na xs) (rv nb ys)),Zi (Int.tmod (rv na xs) (rv nb ys))]):=by
 have l1:=Vl (neg:=na) hx;have l2:=Vl (neg:=nb) hy;have r1:=Qv (neg:=na) hx (by omega);have r2:=Qv (neg:=nb) hy (by omega);generalize rv na xs=a at *
 generalize rv nb ys=b at *
 have hb0:Zb b.natAbs ≠ []:=by rw[Ne,Kx];omega
 obtain⟨qs,rs,q1,q2,q3,q4,q5,q6,q7⟩:=Lu (Qq a.natAbs) (Qq b.natAbs) hb0 (by omega) (by omega);rw[Jg,Jg] at q5 q6;obtain⟨e1,e2⟩:=Zdi a b _ _ q5 q6;have m1:=J0 (neg := !(decide (a<0)==decide (b<0))) q1 q3;have m2:=J0 (neg:=decide (a<0)) q2 q4;have f1:rv (!(decide (a<0)==decide (b<0))) qs=Int.tdiv a b:=e1;have f2:rv (decide (a<0)) rs=Int.tmod a b:=e2;rw[f1] at m1;rw[f2] at m2;exact Zrt na nb _ _ xs ys _ _ qs rs _ _ r1 r2 q7 m1 m2
theorem Ny {n:Nat} {b:Bool} (h:(Zb n).length<=2):Zc Yir 132 [.agg [.bool b,.sl (Zb n).length (lm (Zb n))]] (.int .u64 (n:Nat)):=by
 have hu:=Q6 n;have hv:=Jg n;generalize hxs:Zb n=xs at *
 have hl:=Za.up (prog:=Yir) (c:=Zic) (ex := .exit 0) (fin:=P2 xs (n:Nat) (xs.length:Nat) (xs.length:Nat))
  (fun i=>P2 xs (Zn (xs.take i)) (xs.length:Nat) (i:Nat)) xs.length (by nofun) ?_ ?_ 0 (Nat.zero_le _)
 ·exact Zrj b xs (n:Nat) (xs.length:Nat) (xs.length:Nat) (by simpa [Zn] using hl)
 ·intro i hi;have ei:i64.wrap ((i:Int)+1)=((i+1:Nat):Int):=by rw[w64 (by omega) (by omega)];omega
  have e32:u64.wrap (i64.wrap (32*(i:Int)))=((32*i:Nat):Int):=by rw[w64 (by omega) (by omega),Wu (by omega)];omega
  have em:min (Int.toNat ((32*i:Nat):Int)) (IntKind.bits .u64)=32*i:=by rw[Int.toNat_natCast];show min (32*i) 64=32*i;omega
  have hxi:=Zx hu i;have k:=Zsz xs (Zn (xs.take i)) (xs.length:Nat) (i:Nat) (by simp;omega) (by omega) (by rw[e32];omega);rw[ei,e32,em,Int.toNat_natCast,Wu (n:=xs.getD i 0) (by omega)] at k;have hp:xs.getD i 0*2^(32*i)<18446744073709551616:=by
   have:=Wz (show 32*i<=32 by omega);rw[show (2:Int)^32=4294967296 by decide] at this;have:=Int.mul_le_mul (show xs.getD i 0<=4294967295 by omega) this (by have:=Qc (32*i);omega) (by omega);omega
  have h0:=Int.mul_nonneg hxi.1 (show (0:Int)<=2^(32*i) by have:=Qc (32*i);omega);have hlt:=Vv hu i;rw[G3] at hlt;rw[Wu ⟨h0,hp⟩,BitVec.or_comm,or64 hxi.1 hp (by omega) ⟨Z0 (Xe hu i),hlt⟩] at k;refine k.to rfl ?_;rw[Jt xs i hi,G3];congr 1;rw[Int.mul_comm];omega
 ·rw[List.take_length,hv];exact Zsy xs (n:Nat) (xs.length:Nat) (xs.length:Nat) (by simp)
theorem Sk:∀ (f a b:Nat),b<=f->Za Yir (.loop Zid) (P3 (a:Nat) (b:Nat)) (.exit 0) (P3 (Nat.gcd a b:Nat) 0):=by
 intro f;induction f with
 | zero =>
  intro a b hb;have:b=0:=by omega
  subst this;rw[Nat.gcd_zero_right];exact Za.loop_out (Zhp _ _ (by simp)) (by nofun)
 | succ f ih =>
  intro a b hb;by_cases h0:b=0
  ·subst h0;rw[Nat.gcd_zero_right];exact Za.loop_out (Zhp _ _ (by simp)) (by nofun)
  ·have k:=Zs0 (a:Nat) (b:Nat) (by simp;omega) (by omega);rw[Int.tmod_eq_emod_of_nonneg (by omega),<- Int.natCast_emod] at k;have hm:=Nat.mod_lt a (show 0<b by omega);have:=ih b (a % b) (by omega);rw[Nat.gcd_comm b,<- Nat.gcd_rec,Nat.gcd_comm b a] at this;exact Za.loop k this
theorem Zop {n:Nat} (h:(Zb n).length<=2):(n:Int)<18446744073709551616:=by
 have h1:=Vg (Q6 n);rw[Jg] at h1;have h2:=Vq h;rw[show (4294967296:Int)^2=18446744073709551616 by decide] at h2;omega
theorem Zby {n:Nat} (h:(n:Int)<18446744073709551616):Zc Yir 130 [.int .u64 (n:Nat)] (Zi (n:Nat)):=by
 obtain⟨h1,h2⟩:=G6 (u:=(n:Nat)) (by omega);have m:=J0 (neg:=false) h1 (by simp);have e:rv false [u32.wrap (n:Int),u32.wrap (Int.fdiv (n:Int) (2^(min (Int.toNat 32) (IntKind.bits .u64))))]=(n:Nat):=h2;rw[e] at m;exact Zrl (n:Nat) _ m
theorem cn_nat (n:Nat):cn (n:Nat)=(false,Zb n):=by
 unfold cn;rw[Int.natAbs_natCast,decide_eq_false (by omega)]
theorem D5 (n:Nat):(cn (n:Nat)).2.length=(Zb n).length:=by rw [cn_nat]
theorem Zki {K:Nat} (hK:K<1048576):∀ (f a b:Nat),b<=f->Jo K (a:Nat)->Jo K (b:Nat) ->
  (∃ y z,Za Yir (.loop E1) (Kk (cn (a:Nat)) (cn (b:Nat)) (false,[])) (.exit 0) (Kk (cn (Nat.gcd a b:Nat)) y z)) \/
  (∃ x y,Za Yir (.loop E1) (Kk (cn (a:Nat)) (cn (b:Nat)) (false,[])) .ret (Kk x y (cn (Nat.gcd a b:Nat)))):=by
 intro f;induction f with
 | zero =>
  intro a b hb _ _;have:b=0:=by omega
  subst this;rw[Nat.gcd_zero_right];exact Or.inl ⟨_,_,Za.loop_out (Zhq _ _ _ (by rw[D5];rfl)) (by nofun)⟩
 | succ f ih =>
  intro a b hb ka kb;by_cases h0:b=0
  ·subst h0;rw[Nat.gcd_zero_right];exact Or.inl ⟨_,_,Za.loop_out (Zhq _ _ _ (by rw[D5];rfl)) (by nofun)⟩
  ·have hbl:0<(Zb b).length:=List.length_pos_iff.2 (by rw[Ne,Kx];exact h0);have la:=ka.len;have lb:=kb.len;rw[Int.natAbs_natCast] at la lb;by_cases h2:(Zb a).length<=2/\(Zb b).length<=2
   ·right;have ta:=Zop h2.1;have tb:=Zop h2.2;have hg:((Nat.gcd a b:Nat):Int)<18446744073709551616:=by
     have:=Nat.le_of_dvd (by omega) (Nat.gcd_dvd_right a b);omega
    have u1:=Ny (b:=(cn (a:Nat)).1) h2.1;have u2:=Ny (b:=(cn (b:Nat)).1) h2.2;have u3:=Zrk (a:Nat) (b:Nat) _ _ (Sk b a b (Nat.le_refl _));have u4:=Zby hg;have k:=Ztj (cn (a:Nat)) (cn (b:Nat)) (false,[]) (a:Nat) (b:Nat) (Nat.gcd a b:Nat) (Nat.gcd a b:Nat) (by rw[D5];simp;omega) (by rw[D5];simp;omega) (by rw[D5];simp;omega) u1 u2 u3 u4;exact⟨_,_,Za.loop_out k (by nofun)⟩
   ·have hq:=D7 (na:=(cn (a:Nat)).1) (nb:=(cn (b:Nat)).1) (xs:=(cn (a:Nat)).2) (ys:=(cn (b:Nat)).2) (Q6 _) (Q6 _) (by have:=Zv (b:Nat);unfold Ze at this;rw[this];omega) (by rw[D5];omega) (by rw[D5];omega);rw[show rv (cn (a:Nat)).1 (cn (a:Nat)).2=(a:Nat) from Zv _,show rv (cn (b:Nat)).1 (cn (b:Nat)).2=(b:Nat) from Zv _,Int.tmod_eq_emod_of_nonneg (by omega),<- Int.natCast_emod] at hq;have hm:=Nat.mod_lt a (show 0<b by omega);have step:Za Yir E1 (Kk (cn (a:Nat)) (cn (b:Nat)) (false,[])) .norm (Kk (cn (b:Nat)) (cn ((a % b:Nat):Int)) (false,[])):=by
     by_cases h3:(Zb a).length<=2
     ·exact Zti (cn (a:Nat)) (cn (b:Nat)) (false,[]) _ _ (by rw[D5];simp;omega) (by rw[D5];simp;omega) (by rw[D5];simp;omega) hq
     ·exact Zth (cn (a:Nat)) (cn (b:Nat)) (false,[]) _ _ (by rw[D5];simp;omega) (by rw[D5];simp;omega) hq
    have kr:Jo K ((a % b:Nat):Int):=by
     unfold Jo at *
     rw[Int.natAbs_natCast] at *
     exact Nat.lt_of_le_of_lt (Nat.le_of_lt hm) kb
    have e:Nat.gcd b (a % b)=Nat.gcd a b:=by rw[Nat.gcd_comm b,<- Nat.gcd_rec,Nat.gcd_comm b a]
    rcases ih b (a % b) (by omega) kb kr with ⟨y,z,h⟩ | ⟨x,y,h⟩
    ·rw[e] at h;exact Or.inl ⟨y,z,Za.loop step h⟩
    ·rw[e] at h;exact Or.inr ⟨x,y,Za.loop step h⟩
theorem Ti {na nb:Bool} {xs ys:List Int} (hx:U32 xs) (hy:U32 ys) (h1:xs.length<1048576) (h2:ys.length<1048576) :
  Zc Yir 104 [.agg [.bool na,.sl xs.length (lm xs)],.agg [.bool nb,.sl ys.length (lm ys)]] (Zi (Int.gcd (rv na xs) (rv nb ys):Nat)):=by
 have a1:=N5 (neg:=na) hx (by omega);have a2:=N5 (neg:=nb) hy (by omega);have f1:=Rx (neg:=na) hx;have f2:=Rx (neg:=nb) hy;have g1:Jo (max xs.length ys.length) (((rv na xs).natAbs:Nat):Int):=by
  unfold Jo at *;rw[Int.natAbs_natCast];exact Nat.lt_of_lt_of_le f1 (Nat.pow_le_pow_right (by decide) (by omega))
 have g2:Jo (max xs.length ys.length) (((rv nb ys).natAbs:Nat):Int):=by
  unfold Jo at *;rw[Int.natAbs_natCast];exact Nat.lt_of_lt_of_le f2 (Nat.pow_le_pow_right (by decide) (by omega))
 rcases Zki (K:=max xs.length ys.length) (by omega) _ _ _ (Nat.le_refl _) g1 g2 with ⟨y,z,h⟩ | ⟨x,y,h⟩
 ·exact Zhd na nb xs ys _ _ _ _ _ a1 a2 h
 ·exact Zhc na nb xs ys _ _ _ _ _ a1 a2 h
def TQE:Jx:=TQD
theorem Qp:Qn Yir TQE:=Zik
end Go.Proofs.Ythdpfjffdipipaa

namespace Go.Proofs.Ythdpfjffdipipaa
open Go.IntKind (i64 u64 u32)
open Go.Ai
set_option maxRecDepth 100000
def Ziz (N:Nat) (cs:List AV) (i:Int):Zg:=(.val (.sl N cs)::(dds 1 (.val (.int .i64 0)::(.val (.int .i64 i)::(dds 16 [])))))
theorem Yk34_1 (N:Nat) (cs:List AV) (i:Int) (r:Rn) (v:Int) (c1:(decide (i>=0))=true) (c2:(v==0)=true) (n1:0<=i/\i<(N:Int)) (n2:Qg (List.drop (Int.toNat i*2) cs) 0 2 false=some (.agg [.bool r.1,.sl r.2.length (lm r.2)])) (n3:Zc Yir 74 [.agg [.bool r.1,.sl r.2.length (lm r.2)]] (.int .i64 v)):Za Yir Zws (Ziz N cs i) .norm (Ziz N cs (i64.wrap (i-1))):=Za.go Z9 300 [.b true,.v (.agg [.bool r.1,.sl r.2.length (lm r.2)]),.r (.int .i64 v),.b true] [0,2,3] (ac c1 (ac n1 (ac n2 (ac n3 (ac c2 a0))))) (by kernel_rfl)
theorem Yk34_2 (N:Nat) (cs:List AV) (i:Int) (r:Rn) (v:Int) (c1:(decide (i>=0))=true) (c2:(v==0)=false) (n1:0<=i/\i<(N:Int)) (n2:Qg (List.drop (Int.toNat i*2) cs) 0 2 false=some (.agg [.bool r.1,.sl r.2.length (lm r.2)])) (n3:Zc Yir 74 [.agg [.bool r.1,.sl r.2.length (lm r.2)]] (.int .i64 v)):Za Yir Zws (Ziz N cs i) (.exit 0) (Ziz N cs i):=Za.go Z9 300 [.b true,.v (.agg [.bool r.1,.sl r.2.length (lm r.2)]),.r (.int .i64 v),.b false] [0,2,3] (ac c1 (ac n1 (ac n2 (ac n3 (ac c2 a0))))) (by kernel_rfl)
theorem Yk34_3 (N:Nat) (cs:List AV) (i:Int) (c1:(decide (i>=0))=false):Za Yir Zws (Ziz N cs i) (.exit 0) (Ziz N cs i):=Za.go Z9 300 [.b false,.b false] [0,2,3] (ac c1 (ac (show false=false from rfl) a0)) (by kernel_rfl)
theorem Tu {n:Int}:Wa n=0↔n=0:=by unfold Wa;split <;> (try split) <;> omega
theorem Zr3 (rs:List Rn) (hg:∀ r∈rs,Ji 1048576 r) (hN:rs.length<=1048576):∀ m,m<=rs.length->Za Yir (.loop Zws) (Ziz rs.length (pc rs) ((m:Int)-1)) (.exit 0) (Ziz rs.length (pc rs) (((Zt (Zf rs) m:Nat):Int)-1)):=by
 intro m;induction m with
 | zero =>
  intro _;exact Za.loop_out (Yk34_3 rs.length (pc rs) (((0:Nat):Int)-1) (by simp)) (by nofun)
 | succ m ih =>
  intro hm;have e0:((m+1:Nat):Int)-1=(m:Int):=by omega
  have e1:i64.wrap ((m:Int)-1)=(m:Int)-1:=w64 (by omega) (by omega);have hx:=B2 (rs:=rs) (i:=m) (by omega);have gm:=Qh hg m;have hs:=Kl (neg:=(rs.getD m z0).1) gm.1 gm.2;rw[e0];simp only[Zt];rw[Je];by_cases h0:Ze (rs.getD m z0)=0
  ·rw[if_pos h0];have h1:=Yk34_1 rs.length (pc rs) (m:Int) (rs.getD m z0) (Wa (Ze (rs.getD m z0))) (by simp) (by rw[beq_iff_eq];exact Tu.2 h0) (by omega) (by rw[Int.toNat_natCast];exact hx) hs;rw[e1] at h1;exact Za.loop h1 (ih (by omega))
  ·rw[if_neg h0,e0];exact Za.loop_out (Yk34_2 rs.length (pc rs) (m:Int) (rs.getD m z0) (Wa (Ze (rs.getD m z0))) (by simp) (by rw[beq_eq_false_iff_ne];exact fun h=>h0 (Tu.1 h)) (by omega) (by rw[Int.toNat_natCast];exact hx) hs) (by nofun)
theorem Uy {rs:List Rn} (hg:∀ r∈rs,Ji 1048576 r) (hN:rs.length<=1048576):Zc Yir 34 [.sl rs.length (pc rs)] (.int .i64 (((Zt (Zf rs) rs.length:Nat):Int)-1)):=by
 have e1:i64.wrap ((rs.length:Int)-1)=(rs.length:Int)-1:=w64 (by omega) (by omega);have hl:Za Yir (.loop Zws) (Ziz rs.length (pc rs) (i64.wrap ((rs.length:Int)-1))) (.exit 0) (Ziz rs.length (pc rs) (((Zt (Zf rs) rs.length:Nat):Int)-1)):=by
  rw[e1];exact Zr3 rs hg hN rs.length (Nat.le_refl _)
 exact Zc.of_bodyW (fn:=Yi34) (s:=(.val (.sl rs.length (pc rs))::(dds 1 (.val (.int .i64 (((Zt (Zf rs) rs.length:Nat):Int)-1))::(.val (.int .i64 (((Zt (Zf rs) rs.length:Nat):Int)-1))::(dds 15 (.val (.int .i64 (((Zt (Zf rs) rs.length:Nat):Int)-1))::[]))))))) (ex := .ret) rfl rfl
  (Za.seq (Za.script (t:=(.val (.sl rs.length (pc rs))::(dds 1 (.val (.int .i64 0)::(dds 17 []))))) (ex := .norm) (ps:=[]) Z9 300 [] [0,2] (by kernel_rfl) trivial)
  (Za.seq (Za.script (t:=(.val (.sl rs.length (pc rs))::(dds 1 (.val (.int .i64 0)::(.val (.int .i64 (i64.wrap ((rs.length:Int)-1)))::(dds 16 [])))))) (ex := .norm) (ps:=[]) Z9 300 [] [0,2,3] (by kernel_rfl) trivial)
  (Za.seq (Za.block hl)
  (Za.script (t:=(.val (.sl rs.length (pc rs))::(dds 1 (.val (.int .i64 (((Zt (Zf rs) rs.length:Nat):Int)-1))::(.val (.int .i64 (((Zt (Zf rs) rs.length:Nat):Int)-1))::(dds 15 (.val (.int .i64 (((Zt (Zf rs) rs.length:Nat):Int)-1))::[]))))))) (ex := .ret) (ps:=[]) Z9 300 [] [0,2,3,19] (by kernel_rfl) trivial)))) (by nofun) rfl
def Zpi (N:Nat) (cs:List AV) (n:Nat) (os:List AV) (m:Int) (i:Int):Zg:=(.val (.sl N cs)::(dds 1 (.own 2 0 []::(dds 1 (.own 2 n os::(dds 9 (.val (.int .i64 m)::(.val (.int .i64 i)::(dds 12 [])))))))))
theorem Yk95_1 (N:Nat) (cs:List AV) (n:Nat) (os:List AV) (m:Int) (i:Int) (ds:List AV) (r:Rn) (v:Int) (c1:(decide (i<m))=true) (n1:0<=i/\i<(N:Int)) (n2:Qg (List.drop (Int.toNat i*2) cs) 0 2 false=some (.agg [.bool r.1,.sl r.2.length (lm r.2)])) (n3:Zc Yir 124 [.agg [.bool r.1,.sl r.2.length (lm r.2)]] (.agg [.bool (decide (v<0)),.sl ((Zb (Int.natAbs v)).length) (lm (Zb (Int.natAbs v)))])) (n4:0<=i/\i<(n:Int)) (n5:U4 os (Int.toNat i*2) [.bool (decide (v<0)),.sl ((Zb (Int.natAbs v)).length) (lm (Zb (Int.natAbs v)))]=some ds):Za Yir Yc95 (Zpi N cs n os m i) .norm (Zpi N cs n ds m (i64.wrap (i+1))):=Za.go Z9 300 [.b true,.v (.agg [.bool r.1,.sl r.2.length (lm r.2)]),.r (.agg [.bool (decide (v<0)),.sl ((Zb (Int.natAbs v)).length) (lm (Zb (Int.natAbs v)))]),.l ds] [0,2,4,14,15] (ac c1 (ac n1 (ac n2 (ac n3 (ac n4 (ac n5 a0)))))) (by kernel_rfl)
theorem Yk95_2 (N:Nat) (cs:List AV) (n:Nat) (os:List AV) (m:Int) (i:Int) (c1:(decide (i<m))=false):Za Yir Yc95 (Zpi N cs n os m i) (.exit 0) (Zpi N cs n os m i):=Za.go Z9 300 [.b false] [0,2,4,14,15] (ac c1 a0) (by kernel_rfl)
theorem Zrw (rs:List Rn) (hg:∀ r∈rs,Ji 1048576 r) (hN:rs.length<=1048576) (n:Nat) (hn:n<=rs.length):∀ (r i:Nat),i+r=n ->
  Za Yir (.loop Yc95) (Zpi rs.length (pc rs) n (pc (Uh (fun j=>cn (Ze (rs.getD j z0))) i r)) (n:Int) (i:Int)) (.exit 0) (Zpi rs.length (pc rs) n (pc (Uh (fun j=>cn (Ze (rs.getD j z0))) n 0)) (n:Int) (n:Int)):=by
 intro r;induction r with
 | zero =>
  intro i hi;have hi':i=n:=by omega
  subst hi';exact Za.loop_out (Yk95_2 rs.length (pc rs) i _ (i:Int) (i:Int) (by simp)) (by nofun)
 | succ r ih =>
  intro i hi;have ei:i64.wrap ((i:Int)+1)=((i+1:Nat):Int):=by rw[w64 (by omega) (by omega)];omega
  have hx:=B2 (rs:=rs) (i:=i) (by omega);have gm:=Qh hg i;have hs:=Gu (neg:=(rs.getD i z0).1) gm.1 gm.2;have hst:=Ze6 (rs:=Uh (fun j=>cn (Ze (rs.getD j z0))) i (r+1)) (i:=i) (r:=cn (Ze (rs.getD i z0))) (by rw[W3];omega);rw[Dd (fun j=>cn (Ze (rs.getD j z0))) i r] at hst;have h1:=Yk95_1 rs.length (pc rs) n _ (n:Int) (i:Int) _ (rs.getD i z0) (Ze (rs.getD i z0)) (by simp;omega) (by omega) (by rw[Int.toNat_natCast];exact hx) hs (by omega) (by rw[Int.toNat_natCast];exact hst);rw[ei] at h1;exact Za.loop h1 (ih (i+1) (by omega))
theorem Zk8 (rs:List Rn) (hd:Zc Yir 34 [.sl rs.length (pc rs)] (.int .i64 (((Zt (Zf rs) rs.length:Nat):Int)-1))) (hz:((i64.wrap ((((Zt (Zf rs) rs.length:Nat):Int)-1)+1))==0)=true):Zc Yir 95 [.sl rs.length (pc rs)] (.fresh 2 0 []):=Zc.script (ps:=[Zc Yir 34 [.sl rs.length (pc rs)] (.int .i64 (((Zt (Zf rs) rs.length:Nat):Int)-1)),((i64.wrap ((((Zt (Zf rs) rs.length:Nat):Int)-1)+1))==0)=true]) Z9 rfl 300 rfl [.r (.int .i64 (((Zt (Zf rs) rs.length:Nat):Int)-1)),.b true] (by kernel_rfl) ⟨hd,hz,trivial⟩
theorem Zk9 (rs ss:List Rn) (hd:Zc Yir 34 [.sl rs.length (pc rs)] (.int .i64 (((Zt (Zf rs) rs.length:Nat):Int)-1))) (hz:((i64.wrap ((((Zt (Zf rs) rs.length:Nat):Int)-1)+1))==0)=false) (hmk:0<=i64.wrap ((((Zt (Zf rs) rs.length:Nat):Int)-1)+1)/\i64.wrap ((((Zt (Zf rs) rs.length:Nat):Int)-1)+1)<=1048576) (hl:Za Yir (.loop Yc95) (Zpi rs.length (pc rs) (Int.toNat (i64.wrap ((((Zt (Zf rs) rs.length:Nat):Int)-1)+1))) (J3 [.bool false,.sl 0 []] (Int.toNat (i64.wrap ((((Zt (Zf rs) rs.length:Nat):Int)-1)+1)))) (((Int.toNat (i64.wrap ((((Zt (Zf rs) rs.length:Nat):Int)-1)+1))):Nat):Int) 0) (.exit 0) (Zpi rs.length (pc rs) (Int.toNat (i64.wrap ((((Zt (Zf rs) rs.length:Nat):Int)-1)+1))) (pc ss) (((Int.toNat (i64.wrap ((((Zt (Zf rs) rs.length:Nat):Int)-1)+1))):Nat):Int) (((Int.toNat (i64.wrap ((((Zt (Zf rs) rs.length:Nat):Int)-1)+1))):Nat):Int))):Zc Yir 95 [.sl rs.length (pc rs)] (.fresh 2 (Int.toNat (i64.wrap ((((Zt (Zf rs) rs.length:Nat):Int)-1)+1))) (pc ss)):=Zc.of_bodyW (fn:=Yi95) (s:=(.val (.sl rs.length (pc rs))::(dds 1 (.own 2 (Int.toNat (i64.wrap ((((Zt (Zf rs) rs.length:Nat):Int)-1)+1))) (pc ss)::(dds 11 (.val (.int .i64 (((Int.toNat (i64.wrap ((((Zt (Zf rs) rs.length:Nat):Int)-1)+1))):Nat):Int))::(.val (.int .i64 (((Int.toNat (i64.wrap ((((Zt (Zf rs) rs.length:Nat):Int)-1)+1))):Nat):Int))::(dds 12 [])))))))) (ex := .ret) rfl rfl (Za.seq (Za.go (t:=(vp rs::(dds 1 (.own 2 0 []::(dds 25 []))))) Z9 300 [] [0,2] a0) (Za.seq (Za.go (t:=(vp rs::(dds 1 (.own 2 0 []::(vi (i64.wrap ((((Zt (Zf rs) rs.length:Nat):Int)-1)+1))::(dds 2 (vp rs::(vi (((Zt (Zf rs) rs.length:Nat):Int)-1)::(vi (i64.wrap ((((Zt (Zf rs) rs.length:Nat):Int)-1)+1))::(dds 19 [])))))))))) Z9 300 [.r (.int .i64 (((Zt (Zf rs) rs.length:Nat):Int)-1))] [0,2,3,6,7,8] (ac (show Zc Yir 34 [.sl rs.length (pc rs)] (.int .i64 (((Zt (Zf rs) rs.length:Nat):Int)-1)) from hd) a0)) (Za.seq (Za.go (t:=(vp rs::(dds 1 (.own 2 0 []::(vi (i64.wrap ((((Zt (Zf rs) rs.length:Nat):Int)-1)+1))::(dds 2 (vp rs::(vi (((Zt (Zf rs) rs.length:Nat):Int)-1)::(vi (i64.wrap ((((Zt (Zf rs) rs.length:Nat):Int)-1)+1))::(vi (i64.wrap ((((Zt (Zf rs) rs.length:Nat):Int)-1)+1))::(.val (.bool ((i64.wrap ((((Zt (Zf rs) rs.length:Nat):Int)-1)+1))==0))::(dds 17 [])))))))))))) Z9 300 [.b false] [0,2,3,6,7,8,9,10] (ac (show ((i64.wrap ((((Zt (Zf rs) rs.length:Nat):Int)-1)+1))==0)=false from hz) a0)) (Za.seq (Za.go (t:=(vp rs::(dds 1 (.own 2 0 []::(vi (i64.wrap ((((Zt (Zf rs) rs.length:Nat):Int)-1)+1))::(.own 2 (Int.toNat (i64.wrap ((((Zt (Zf rs) rs.length:Nat):Int)-1)+1))) (J3 [.bool false,.sl 0 []] (Int.toNat (i64.wrap ((((Zt (Zf rs) rs.length:Nat):Int)-1)+1))))::(dds 1 (vp rs::(vi (((Zt (Zf rs) rs.length:Nat):Int)-1)::(vi (i64.wrap ((((Zt (Zf rs) rs.length:Nat):Int)-1)+1))::(vi (i64.wrap ((((Zt (Zf rs) rs.length:Nat):Int)-1)+1))::(.val (.bool ((i64.wrap ((((Zt (Zf rs) rs.length:Nat):Int)-1)+1))==0))::(vi (i64.wrap ((((Zt (Zf rs) rs.length:Nat):Int)-1)+1))::(dds 16 [])))))))))))))) Z9 300 [] [0,2,3,4,6,7,8,9,10,11] (ac (show 0<=(i64.wrap ((((Zt (Zf rs) rs.length:Nat):Int)-1)+1))/\(i64.wrap ((((Zt (Zf rs) rs.length:Nat):Int)-1)+1))<=1048576 from hmk) a0)) (Za.seq (Za.seq (Za.go (t:=(vp rs::(dds 1 (.own 2 0 []::(dds 1 (.own 2 (Int.toNat (i64.wrap ((((Zt (Zf rs) rs.length:Nat):Int)-1)+1))) (J3 [.bool false,.sl 0 []] (Int.toNat (i64.wrap ((((Zt (Zf rs) rs.length:Nat):Int)-1)+1))))::(dds 9 (vi (((Int.toNat (i64.wrap ((((Zt (Zf rs) rs.length:Nat):Int)-1)+1))):Nat):Int)::(vi 0::(dds 12 [])))))))))) Z9 300 [] [0,2,4,14,15] a0) (Za.block hl)) (Za.go (t:=(vp rs::(dds 1 (.own 2 (Int.toNat (i64.wrap ((((Zt (Zf rs) rs.length:Nat):Int)-1)+1))) (pc ss)::(dds 11 (vi (((Int.toNat (i64.wrap ((((Zt (Zf rs) rs.length:Nat):Int)-1)+1))):Nat):Int)::(vi (((Int.toNat (i64.wrap ((((Zt (Zf rs) rs.length:Nat):Int)-1)+1))):Nat):Int)::(dds 12 [])))))))) (ex := .ret) Z9 300 [] [0,2,14,15] a0)))))) (by nofun) rfl
theorem Wt {rs:List Rn} (hg:∀ r∈rs,Ji 1048576 r) (hN:rs.length<=1048576):Zc Yir 95 [.sl rs.length (pc rs)] (.fresh 2 (Zj (Zf rs)).length (pk (Zj (Zf rs)))):=by
 have hle:=Vh (Zf rs) rs.length;have hlen:(Zj (Zf rs)).length=Zt (Zf rs) rs.length:=by rw[Xm,Zu]
 have hd:=Uy hg hN;have e1:i64.wrap ((((Zt (Zf rs) rs.length:Nat):Int)-1)+1)=((Zt (Zf rs) rs.length:Nat):Int):=by rw[w64 (by omega) (by omega)];omega
 have e2:(Int.toNat (i64.wrap ((((Zt (Zf rs) rs.length:Nat):Int)-1)+1)))=Zt (Zf rs) rs.length:=by rw[e1,Int.toNat_natCast]
 by_cases h0:Zt (Zf rs) rs.length=0
 ·have h:=Zk8 rs hd (by rw[e1,h0];rfl);have:Zj (Zf rs)=[]:=List.eq_nil_of_length_eq_zero (by omega);rw[this];exact h
 ·have hl:=Zrw rs hg hN (Zt (Zf rs) rs.length) hle (Zt (Zf rs) rs.length) 0 (by omega);rw[Gj,<- Md] at hl;have h:=Zk9 rs _ hd (by rw[e1,beq_eq_false_iff_ne];omega) (by rw[e1];omega) (by rw[e2];exact hl);rw[e2,Gk] at h;have e3:(List.range (Zt (Zf rs) rs.length)).map (fun j=>cn (Ze (rs.getD j z0)))=(Zj (Zf rs)).map cn:=by
   rw[<- Mf,hlen];apply List.map_congr_left;intro i _;rw[Jh,Je]
  rw[e3] at h;rw[hlen];exact h
def Zpj (N:Nat) (cs:List AV) (n:Nat) (os:List AV) (m:Int) (i:Int):Zg:=(.val (.sl N cs)::(dds 1 (.own 2 0 []::(.own 2 n os::(dds 5 (.val (.int .i64 m)::(.val (.int .i64 i)::(dds 12 []))))))))
theorem Yk86_1 (N:Nat) (cs:List AV) (n:Nat) (os:List AV) (m:Int) (i:Int) (ds:List AV) (r:Rn) (v:Int) (c1:(decide (i<m))=true) (n1:0<=i/\i<(N:Int)) (n2:Qg (List.drop (Int.toNat i*2) cs) 0 2 false=some (.agg [.bool r.1,.sl r.2.length (lm r.2)])) (n3:Zc Yir 107 [.agg [.bool r.1,.sl r.2.length (lm r.2)]] (.agg [.bool (decide (v<0)),.sl ((Zb (Int.natAbs v)).length) (lm (Zb (Int.natAbs v)))])) (n4:0<=i/\i<(n:Int)) (n5:U4 os (Int.toNat i*2) [.bool (decide (v<0)),.sl ((Zb (Int.natAbs v)).length) (lm (Zb (Int.natAbs v)))]=some ds):Za Yir Yc86 (Zpj N cs n os m i) .norm (Zpj N cs n ds m (i64.wrap (i+1))):=Za.go Z9 300 [.b true,.v (.agg [.bool r.1,.sl r.2.length (lm r.2)]),.r (.agg [.bool (decide (v<0)),.sl ((Zb (Int.natAbs v)).length) (lm (Zb (Int.natAbs v)))]),.l ds] [0,2,3,9,10] (ac c1 (ac n1 (ac n2 (ac n3 (ac n4 (ac n5 a0)))))) (by kernel_rfl)
theorem Yk86_2 (N:Nat) (cs:List AV) (n:Nat) (os:List AV) (m:Int) (i:Int) (c1:(decide (i<m))=false):Za Yir Yc86 (Zpj N cs n os m i) (.exit 0) (Zpj N cs n os m i):=Za.go Z9 300 [.b false] [0,2,3,9,10] (ac c1 a0) (by kernel_rfl)
theorem Zrx (rs:List Rn) (hg:∀ r∈rs,Ji 1048576 r) (hN:rs.length<=1048576) (n:Nat) (hn:n<=rs.length):∀ (r i:Nat),i+r=n ->
  Za Yir (.loop Yc86) (Zpj rs.length (pc rs) n (pc (Uh (fun j=>cn (-(Ze (rs.getD j z0)))) i r)) (n:Int) (i:Int)) (.exit 0) (Zpj rs.length (pc rs) n (pc (Uh (fun j=>cn (-(Ze (rs.getD j z0)))) n 0)) (n:Int) (n:Int)):=by
 intro r;induction r with
 | zero =>
  intro i hi;have hi':i=n:=by omega
  subst hi';exact Za.loop_out (Yk86_2 rs.length (pc rs) i _ (i:Int) (i:Int) (by simp)) (by nofun)
 | succ r ih =>
  intro i hi;have ei:i64.wrap ((i:Int)+1)=((i+1:Nat):Int):=by rw[w64 (by omega) (by omega)];omega
  have hx:=B2 (rs:=rs) (i:=i) (by omega);have gm:=Qh hg i;have hs:=Th (neg:=(rs.getD i z0).1) gm.1 gm.2;have hst:=Ze6 (rs:=Uh (fun j=>cn (-(Ze (rs.getD j z0)))) i (r+1)) (i:=i) (r:=cn (-(Ze (rs.getD i z0)))) (by rw[W3];omega);rw[Dd (fun j=>cn (-(Ze (rs.getD j z0)))) i r] at hst;have h1:=Yk86_1 rs.length (pc rs) n _ (n:Int) (i:Int) _ (rs.getD i z0) (-(Ze (rs.getD i z0))) (by simp;omega) (by omega) (by rw[Int.toNat_natCast];exact hx) hs (by omega) (by rw[Int.toNat_natCast];exact hst);rw[ei] at h1;exact Za.loop h1 (ih (i+1) (by omega))
theorem Yrun86 (rs ss:List Rn) (hmk:0<=(rs.length:Int)/\(rs.length:Int)<=1048576) (hl:Za Yir (.loop Yc86) (Zpj rs.length (pc rs) (Int.toNat (rs.length:Int)) (J3 [.bool false,.sl 0 []] (Int.toNat (rs.length:Int))) (rs.length:Int) 0) (.exit 0) (Zpj rs.length (pc rs) (Int.toNat (rs.length:Int)) (pc ss) (rs.length:Int) (rs.length:Int))):Zc Yir 86 [.sl rs.length (pc rs)] (.fresh 2 (Int.toNat (rs.length:Int)) (pc ss)):=Zc.of_bodyW (fn:=Yi86) (s:=(.val (.sl rs.length (pc rs))::(dds 1 (.own 2 (Int.toNat (rs.length:Int)) (pc ss)::(dds 6 (.val (.int .i64 (rs.length:Int))::(.val (.int .i64 (rs.length:Int))::(dds 12 [])))))))) (ex := .ret) rfl rfl (Za.seq (Za.go (t:=(vp rs::(dds 1 (.own 2 0 []::(dds 20 []))))) Z9 300 [] [0,2] a0) (Za.seq (Za.go (t:=(vp rs::(dds 1 (.own 2 0 []::(.own 2 (Int.toNat (rs.length:Int)) (J3 [.bool false,.sl 0 []] (Int.toNat (rs.length:Int)))::(dds 1 (vp rs::(vi (rs.length:Int)::(dds 16 []))))))))) Z9 300 [] [0,2,3,5,6] (ac (show 0<=(rs.length:Int)/\(rs.length:Int)<=1048576 from hmk) a0)) (Za.seq (Za.seq (Za.go (t:=(vp rs::(dds 1 (.own 2 0 []::(.own 2 (Int.toNat (rs.length:Int)) (J3 [.bool false,.sl 0 []] (Int.toNat (rs.length:Int)))::(dds 5 (vi (rs.length:Int)::(vi 0::(dds 12 []))))))))) Z9 300 [] [0,2,3,9,10] a0) (Za.block hl)) (Za.go (t:=(vp rs::(dds 1 (.own 2 (Int.toNat (rs.length:Int)) (pc ss)::(dds 6 (vi (rs.length:Int)::(vi (rs.length:Int)::(dds 12 [])))))))) (ex := .ret) Z9 300 [] [0,2,9,10] a0)))) (by nofun) rfl
theorem W7 {rs:List Rn} (hg:∀ r∈rs,Ji 1048576 r) (hN:rs.length<=1048576):Zc Yir 86 [.sl rs.length (pc rs)] (.fresh 2 rs.length (pk (Xz (Zf rs)))):=by
 have hl:=Zrx rs hg hN rs.length (Nat.le_refl _) rs.length 0 (by omega);rw[Gj,<- Md] at hl;have h:=Yrun86 rs _ (by omega) (by rw[Int.toNat_natCast];exact hl);rw[Int.toNat_natCast,Gk] at h;have e3:(List.range rs.length).map (fun j=>cn (-(Ze (rs.getD j z0))))=(Xz (Zf rs)).map cn:=by
  have hq:(Xz (Zf rs)).length=rs.length:=by simp[Xz,Zf]
  rw[<- Mf,hq];apply List.map_congr_left;intro i _;rw[Wn,Je]
 rw[e3] at h;exact h
def TAA:Jx:=TWC
theorem Qr:Qn Yir TAA:=Z9
end Go.Proofs.Ythdpfjffdipipaa

namespace Go.Proofs.Ythdpfjffdipipaa
open Go.IntKind (i64 u64 u32)
open Go.Ai
set_option maxRecDepth 100000
def E0 (rs:List Rn) (w:Rn) (i:Int) (z:Rn):Zg:=(.val (.sl rs.length (pc rs))::(dds 1 (.box [.bool z.1,.sl z.2.length (lm z.2)]::(.box [.bool w.1,.sl w.2.length (lm w.2)]::(.val (.int .i64 i)::(dds 19 []))))))
theorem Zte (rs:List Rn) (w:Rn) (i:Int) (z:Rn) (b g:Int) (c1:(decide (i>=0))=true) (c2:(b != 1)=true) (n1:0<=i/\i<(rs.length:Int)) (n2:Zc Yir 37 [Z4 w] (.int .i64 b)) (n3:Zc Yir 104 [Z4 w,Z4 (rs.getD (Int.toNat i) z0)] (Zi g)):Za Yir Zc5 (E0 rs w i z) .norm (E0 rs (cn g) (i64.wrap (i-1)) z):=(Za.go Qp 400 [.b true,.r (.int .i64 b),.b true,.v (Z4 (rs.getD (Int.toNat i) z0)),.r (Zi g)] [0,2,3,4] (ac c1 (ac n2 (ac c2 (ac n1 (ac (Jy n1) (ac n3 a0)))))))
theorem Ztd (rs:List Rn) (w:Rn) (i:Int) (z:Rn) (b:Int) (c1:(decide (i>=0))=true) (c2:(b != 1)=false) (n1:Zc Yir 37 [Z4 w] (.int .i64 b)):Za Yir Zc5 (E0 rs w i z) (.exit 0) (E0 rs w i z):=(Za.go Qp 400 [.b true,.r (.int .i64 b),.b false] [0,2,3,4] (ac c1 (ac n1 (ac c2 a0))))
theorem Ztc (rs:List Rn) (w:Rn) (i:Int) (z:Rn)  (c1:(decide (i>=0))=false):Za Yir Zc5 (E0 rs w i z) (.exit 0) (E0 rs w i z):=(Za.go Qp 400 [.b false,.b false] [0,2,3,4] (ac c1 (ac (show false=false from rfl) a0)))
theorem Zrq (rs:List Rn) (w z:Rn) (i:Int) (hl1:Za Yir (.loop Zc5) (E0 rs (false,[]) (i64.wrap ((rs.length:Int)-1)) (false,[])) (.exit 0) (E0 rs w i z)):Zc Yir 111 [.sl rs.length (pc rs)] (Z4 w):=Zc.of_bodyW (fn:=Zh4) (s:=(dds 2 (.box [.bool w.1,.sl w.2.length (lm w.2)]::(dds 21 [])))) (ex := .ret) rfl rfl (Za.asc (Za.csi (Za.seq (Za.go Qp 400 [] [0,2,3,4] a0) (Za.seq (Za.block hl1) (Za.go Qp 400 [] [2] a0))))) (by nofun) rfl
def Zix (k:Nat) (os:List Rn) (w:Rn) (n:Int) (i:Int):Zg:=(dds 3 (.own 2 k (pc os)::(.box [.bool w.1,.sl w.2.length (lm w.2)]::(dds 9 (.val (.int .i64 n)::(.val (.int .i64 i)::(dds 16 [])))))))
theorem Yk73_1 (k:Nat) (os:List Rn) (w:Rn) (n:Int) (i:Int) (q r:Int) (c1:(decide (i<n))=true) (n1:0<=i/\i<(k:Int)) (n2:os.length=k) (n3:Zc Yir 105 [Z4 (os.getD (Int.toNat i) z0),Z4 w] (.tup [Zi q,Zi r])):Za Yir Zwq (Zix k os w n i) .norm (Zix k (os.set (Int.toNat i) (cn q)) w n (i64.wrap (i+1))):=(Za.go Qp 400 [.b true,.v (Z4 (os.getD (Int.toNat i) z0)),.r (.tup [Zi q,Zi r]),.l (pc (os.set (Int.toNat i) (cn q)))] [3,4,14,15] (ac c1 (ac n1 (ac (Vj n2 n1) (ac n3 (ac n1 (ac (Vk (r:=cn q) n2 n1) a0)))))))
theorem Yk73_2 (k:Nat) (os:List Rn) (w:Rn) (n:Int) (i:Int)  (c1:(decide (i<n))=false):Za Yir Zwq (Zix k os w n i) (.exit 0) (Zix k os w n i):=(Za.go Qp 400 [.b false] [3,4,14,15] (ac c1 a0))
theorem Zlw (rs ts os:List Rn) (w:Rn) (g b n i:Int) (k:Nat) (c1:(decide (b>1))=true) (n1:Zc Yir 95 [.sl rs.length (pc rs)] (.fresh 2 ts.length (pc ts))) (n2:List.all (pc ts) (fun c => !isI c)=true) (n3:U5 (Zi g)=true) (n4:Zc Yir 111 [.sl ts.length (pc ts)] (Zi g)) (n5:Zc Yir 37 [Zi g] (.int .i64 b)) (hl6:Za Yir (.loop Zwq) (Zix ts.length ts (cn g) (ts.length:Int) 0) (.exit 0) (Zix k os w n i)):Zc Yir 73 [.sl rs.length (pc rs)] (.fresh 2 k (pc os)):=Zc.of_bodyW (fn:=Zwh) (s:=(dds 2 (.own 2 k (pc os)::(dds 29 [])))) (ex := .ret) rfl rfl (Za.asc (Za.asc (Za.csi (Za.seq (Za.go (t:=(vp rs::(dds 1 (.own 2 0 []::(.own 2 ts.length (pc ts)::(bN g::(dds 7 (.val (.bool (decide (b>1)))::(dds 19 []))))))))) Qp 400 [.r (.fresh 2 ts.length (pc ts)),.r (Zi g),.r (.int .i64 b)] [0,2,3,4,12] (ac n1 (ac n2 (ac n3 (ac n4 (ac n5 a0)))))) (Za.seq (Za.cond_t (by rfl) c1 (Za.seq (Za.go Qp 400 [] [3,4,14,15] a0) (Za.block hl6))) (Za.go Qp 400 [] [2] a0)))))) (by nofun) rfl
theorem Zlv (rs ts:List Rn) (g b:Int) (c1:(decide (b>1))=false) (n1:Zc Yir 95 [.sl rs.length (pc rs)] (.fresh 2 ts.length (pc ts))) (n2:List.all (pc ts) (fun c => !isI c)=true) (n3:U5 (Zi g)=true) (n4:Zc Yir 111 [.sl ts.length (pc ts)] (Zi g)) (n5:Zc Yir 37 [Zi g] (.int .i64 b)):Zc Yir 73 [.sl rs.length (pc rs)] (.fresh 2 ts.length (pc ts)):=Zc.of_bodyW (fn:=Zwh) (s:=(dds 2 (.own 2 ts.length (pc ts)::(dds 29 [])))) (ex := .ret) rfl rfl (Za.asc (Za.asc (Za.csi (Za.seq (Za.go (t:=(vp rs::(dds 1 (.own 2 0 []::(.own 2 ts.length (pc ts)::(bN g::(dds 7 (.val (.bool (decide (b>1)))::(dds 19 []))))))))) Qp 400 [.r (.fresh 2 ts.length (pc ts)),.r (Zi g),.r (.int .i64 b)] [0,2,3,4,12] (ac n1 (ac n2 (ac n3 (ac n4 (ac n5 a0)))))) (Za.seq (Za.cond_f (by rfl) c1 (Za.go (t:=(dds 2 (.own 2 0 []::(.own 2 ts.length (pc ts)::(dds 28 []))))) Qp 400 [] [2,3] a0)) (Za.go Qp 400 [] [2] a0)))))) (by nofun) rfl
theorem Zg9 (rs ts:List Rn) (s:Int) (c1:(decide ((rs.length:Int)>0))=true) (c2:(decide (s<0))=true) (n1:0<=(i64.wrap ((rs.length:Int)-1))/\(i64.wrap ((rs.length:Int)-1))<(rs.length:Int)) (n2:Zc Yir 74 [Z4 (rs.getD (Int.toNat (i64.wrap ((rs.length:Int)-1))) z0)] (.int .i64 s)) (n3:Zc Yir 86 [.sl rs.length (pc rs)] (.fresh 2 ts.length (pc ts))):Zc Yir 109 [.sl rs.length (pc rs)] (.fresh 2 ts.length (pc ts)):=Zc.go (fn:=Te) Qp rfl 400 rfl [.b true,.v (Z4 (rs.getD (Int.toNat (i64.wrap ((rs.length:Int)-1))) z0)),.r (.int .i64 s),.b true,.r (.fresh 2 ts.length (pc ts))] (ac c1 (ac n1 (ac (Jy n1) (ac n2 (ac c2 (ac n3 a0))))))
theorem Zg8 (rs:List Rn) (s:Int) (c1:(decide ((rs.length:Int)>0))=true) (c2:(decide (s<0))=false) (n1:0<=(i64.wrap ((rs.length:Int)-1))/\(i64.wrap ((rs.length:Int)-1))<(rs.length:Int)) (n2:Zc Yir 74 [Z4 (rs.getD (Int.toNat (i64.wrap ((rs.length:Int)-1))) z0)] (.int .i64 s)):Zc Yir 109 [.sl rs.length (pc rs)] (.sl rs.length (pc rs)):=Zc.go (fn:=Te) Qp rfl 400 rfl [.b true,.v (Z4 (rs.getD (Int.toNat (i64.wrap ((rs.length:Int)-1))) z0)),.r (.int .i64 s),.b false] (ac c1 (ac n1 (ac (Jy n1) (ac n2 (ac c2 a0)))))
theorem Zg7 (rs:List Rn) (c1:(decide ((rs.length:Int)>0))=false):Zc Yir 109 [.sl rs.length (pc rs)] (.sl rs.length (pc rs)):=Zc.go (fn:=Te) Qp rfl 400 rfl [.b false,.b false] (ac c1 (ac (show false=false from rfl) a0))
def Zpk (rs:List Rn) (k:Nat) (cs:List AV) (i:Int):Zg:=(.val (.sl rs.length (pc rs))::(dds 2 (.own 2 k cs::(.val (.int .i64 i)::(dds 18 [])))))
theorem Yk85_1 (rs:List Rn) (k:Nat) (cs:List AV) (i:Int) (d v:Int) (c1:(decide (i<=d))=true) (n1:0<=i/\i<(rs.length:Int)) (n2:k+1<=1048576) (n3:Zc Yir 34 [.sl rs.length (pc rs)] (.int .i64 d)) (n4:Zc Yir 108 [.int .i64 i] (Zi i)) (n5:Zc Yir 78 [Z4 (rs.getD (Int.toNat i) z0),Zi i] (Zi v)):Za Yir Yc85 (Zpk rs k cs i) .norm (Zpk rs (k+1) (cs++([.bool (decide (v<0)),.sl ((Zb (Int.natAbs v)).length) (lm (Zb (Int.natAbs v)))]:List AV)) (i64.wrap (i+1))):=(Za.go Qp 400 [.r (.int .i64 d),.b true,.v (Z4 (rs.getD (Int.toNat i) z0)),.r (Zi i),.r (Zi v)] [0,3,4] (ac n3 (ac c1 (ac n1 (ac (Jy n1) (ac n4 (ac n5 (ac (show List.length ([.bool (decide (v<0)),.sl ((Zb (Int.natAbs v)).length) (lm (Zb (Int.natAbs v)))]:List AV)=1*2 from rfl) (ac n2 a0)))))))))
theorem Yk85_2 (rs:List Rn) (k:Nat) (cs:List AV) (i:Int) (d:Int) (c1:(decide (i<=d))=false) (n1:Zc Yir 34 [.sl rs.length (pc rs)] (.int .i64 d)):Za Yir Yc85 (Zpk rs k cs i) (.exit 0) (Zpk rs k cs i):=(Za.go Qp 400 [.r (.int .i64 d),.b false] [0,3,4] (ac n1 (ac c1 a0)))
theorem Yrun85 (rs os ts:List Rn) (k:Nat) (i:Int) (hl1:Za Yir (.loop Yc85) (Zpk rs 0 ([]:List AV) 1) (.exit 0) (Zpk rs k (pc os) i)) (n2:Zc Yir 95 [.sl k (pc os)] (.fresh 2 ts.length (pc ts))):Zc Yir 85 [.sl rs.length (pc rs)] (.fresh 2 ts.length (pc ts)):=Zc.of_bodyW (fn:=Yi85) (s:=(dds 2 (.own 2 ts.length (pc ts)::(dds 20 [])))) (ex := .ret) rfl rfl (Za.asc (Za.csi (Za.seq (Za.go Qp 400 [] [0,3,4] a0) (Za.seq (Za.block hl1) (Za.go Qp 400 [.r (.fresh 2 ts.length (pc ts))] [2] (ac n2 a0)))))) (by nofun) rfl
def TRA:Jx:=TQE
theorem Zij:Qn Yir TRA:=Qp
end Go.Proofs.Ythdpfjffdipipaa

namespace Go.Ai
open Go.IntKind (i64 u64 u32)
def Qy:List Int->Nat
 | []=>0
 | x::xs=>Nat.gcd x.natAbs (Qy xs)
theorem Hp (d:Nat):∀ xs:List Int,d∣Qy xs↔∀ i,(d:Int)∣xs.getD i 0
 | []=>by simp[Qy]
 | x::xs=>by
  have ih:=Hp d xs;simp only[Qy,Nat.dvd_gcd_iff,ih];constructor
  ·rintro⟨h1,h2⟩ i;cases i with
   | zero=>simpa using Int.ofNat_dvd_left.2 h1
   | succ i=>simpa using h2 i
  ·intro h;refine⟨Int.ofNat_dvd_left.1 (by simpa using h 0),fun i=>by simpa using h (i+1)⟩
theorem V5 (xs:List Int) (i:Nat):(Qy xs:Int)∣xs.getD i 0:=(Hp _ xs).1 (Nat.dvd_refl _) i
theorem M2 {xs ys:List Int} (h:∀ i,xs.getD i 0=ys.getD i 0):Qy xs=Qy ys :=
 Nat.dvd_antisymm ((Hp _ _).2 fun i=>h i ▸ V5 xs i) ((Hp _ _).2 fun i=>h i ▸ V5 ys i)
theorem Pk (xs:List Int):Qy (Zj xs)=Qy xs:=M2 (Jh xs)
theorem K4 {xs:List Int}:Qy xs=0↔∀ i,xs.getD i 0=0:=by
 constructor
 ·intro h i;have:=V5 xs i;rw[h] at this;exact Int.zero_dvd.1 this
 ·intro h;have:Qy xs=Qy []:=M2 fun i=>by rw[h i];simp
  rw[this];rfl
theorem Vt (k:Int):∀ xs:List Int,Qy (Zw k xs)=k.natAbs*Qy xs
 | []=>rfl
 | x::xs=>by
  have ih:=Vt k xs;simp only[Zw,List.map_cons,Qy] at *
  rw[ih,Int.natAbs_mul,Nat.gcd_mul_left]
theorem Xf {xs:List Int}:Zj xs=[]↔∀ i,xs.getD i 0=0:=by
 constructor
 ·intro h i;rw[<- Jh,h];simp
 ·intro h;have:Zj xs=Zj []:=V2 fun i=>by rw[h i];simp
  rw[this];rfl
theorem Hr {xs:List Int} (h:Zj xs ≠ []):0<Qy xs:=by
 rcases Nat.eq_zero_or_pos (Qy xs) with g | g
 ·exact absurd (Xf.2 (K4.1 g)) h
 ·exact g
theorem Hj {k:Int} (hk:k ≠ 0) (xs:List Int):Zj (Zw k xs)=Zw k (Zj xs):=by
 have e:∀ n,Zt (Zw k xs) n=Zt xs n:=by
  intro n;induction n with
  | zero=>rfl
  | succ n ih =>
   simp only[Zt,ih,Z2];by_cases h:xs.getD n 0=0
   ·rw[h,Int.mul_zero]
   ·rw[if_neg h,if_neg (Int.mul_ne_zero hk h)]
 simp only[Zj];rw[e,show (Zw k xs).length=xs.length by simp[Zw]];simp[Zw,List.map_take]
def prim (xs:List Int):List Int:=(Zj xs).map fun x=>x / (Qy xs:Int)
theorem K1 (xs:List Int) (i:Nat):(prim xs).getD i 0=xs.getD i 0 / (Qy xs:Int):=by
 rw[<- Jh xs i];simp only[prim,List.getD_eq_getElem?_getD,List.getElem?_map];cases (Zj xs)[i]? <;> simp
theorem Qt (xs:List Int):(prim xs).length=(Zj xs).length:=by simp [prim]
theorem Ba (xs:List Int) (i:Nat):(Qy xs:Int)*(prim xs).getD i 0=xs.getD i 0:=by
 rw[K1];exact Int.mul_ediv_cancel' (V5 xs i)
theorem T3 {xs ys:List Int} (h:∀ i,xs.getD i 0=ys.getD i 0):prim xs=prim ys:=by
 simp only[prim];rw[V2 h,M2 h]
theorem Xu {xs:List Int}:prim xs=[]↔∀ i,xs.getD i 0=0:=by
 rw[<- Xf];simp[prim]
theorem Zbs {k:Int} (hk:0<k) (xs:List Int):prim (Zw k xs)=prim xs:=by
 simp only[prim];rw[Hj (by omega),Vt];simp only[Zw,List.map_map];apply List.map_congr_left;intro x _;simp only[Function.comp];rw[Int.natCast_mul,Int.natAbs_of_nonneg (by omega),Int.mul_ediv_mul_of_pos _ _ hk]
theorem Gc {k:Int} (hk:0<k) {xs ys:List Int} (h:∀ i,ys.getD i 0=k*xs.getD i 0):prim ys=prim xs:=by
 rw[<- Zbs hk xs];exact T3 fun i=>by rw[h,Z2]
theorem Zdg {xs:List Int} (h:Zt xs xs.length=xs.length):Zj xs=xs:=by simp [Zj,h]
def Xw (xs:List Int):Prop:=Zj xs=xs
theorem Ky (xs:List Int):Xw (Zj xs):=Gx xs
theorem U3 {xs:List Int} (h:Xw xs) (hn:xs ≠ []):xs.getD (xs.length-1) 0 ≠ 0:=by
 have e:=congrArg List.length h;rw[Xm] at e;rcases To xs xs.length with g | g
 ·rw[g] at e;exact absurd (List.eq_nil_of_length_eq_zero e.symm) hn
 ·rw[e] at g;exact g
theorem Aw {xs:List Int} (h:xs=[]\/xs.getD (xs.length-1) 0 ≠ 0):Xw xs:=by
 rcases h with rfl | h
 ·rfl
 ·cases hl:xs.length with
  | zero=>rw[List.eq_nil_of_length_eq_zero hl];rfl
  | succ n =>
   apply Zdg;rw[hl];simp only[Zt];rw[if_neg (by rw[hl] at h;simpa using h)]
theorem Wk {k:Int} (hk:k ≠ 0) {xs:List Int} (h:Xw xs):Xw (Zw k xs):=by
 unfold Xw;rw[Hj hk,h]
theorem F1 (xs:List Int):Zw (Qy xs) (prim xs)=Zj xs:=by
 apply W0
 ·simp[Zw,Qt]
 ·intro i;rw[Z2,Ba,Jh]
theorem Jw (xs:List Int):Xw (prim xs):=by
 by_cases h:Zj xs=[]
 ·rw[Xu.2 (Xf.1 h)];rfl
 ·have hc:=Hr h;have h1:=Ky xs;rw[<- F1] at h1;unfold Xw at h1 |-;rw[Hj (by omega)] at h1;have hinj:∀ a b:List Int,Zw (Qy xs) a=Zw (Qy xs) b->a=b:=by
   intro a b hab;have hl:=congrArg List.length hab;simp only[Zw,List.length_map] at hl;apply W0 hl;intro i;have:=congrArg (fun l:List Int=>l.getD i 0) hab;simp only[Z2] at this;exact Int.eq_of_mul_eq_mul_left (by omega) this
  exact hinj _ _ h1
theorem K5 {xs:List Int} (h:Zj xs ≠ []):Qy (prim xs)=1:=by
 have hc:=Hr h;have h1:=Vt (Qy xs) (prim xs);rw[F1,Pk,Int.natAbs_natCast] at h1;have h2:Qy xs*1=Qy xs*Qy (prim xs):=by rw[Nat.mul_one];exact h1
 exact (Nat.eq_of_mul_eq_mul_left hc h2).symm
theorem Mh {xs:List Int} (h:Qy xs=1):prim xs=Zj xs:=by
 simp only[prim,h];rw[show (fun x:Int=>x / ((1:Nat):Int))=id by funext x;simp];simp
theorem Q8 (xs:List Int):prim (prim xs)=prim xs:=by
 by_cases h:Zj xs=[]
 ·rw[Xu.2 (Xf.1 h)];rfl
 ·rw[Mh (K5 h)];exact Jw xs
theorem Mx {K:Nat} {x:Int} (h:Jo K x) (c:Nat):Jo K (x / (c:Int))\/¬ (c:Int)∣x:=by
 by_cases hd:(c:Int)∣x
 ·left;obtain⟨y,rfl⟩:=hd;rcases Nat.eq_zero_or_pos c with h0 | h0
  ·subst h0;simpa using h
  ·rw[Int.mul_ediv_cancel_left _ (by omega)];unfold Jo at *
   rw[Int.natAbs_mul,Int.natAbs_natCast] at h;have:=Nat.le_mul_of_pos_left y.natAbs h0;omega
 ·exact Or.inr hd
theorem Zft {K:Nat} {xs:List Int} (h:∀ i,Jo K (xs.getD i 0)) (i:Nat):Jo K ((prim xs).getD i 0):=by
 rw[K1];rcases Mx (h i) (Qy xs) with g | g
 ·exact g
 ·exact absurd (V5 xs i) g
end Go.Ai

namespace Go.Ai
open Go.IntKind (i64 u64 u32)
def Kb (K:Nat) (r:List Int):Prop:=∀ i,Jo K (r.getD i 0)
theorem Kb.mono {J K:Nat} {r:List Int} (h:Kb J r) (hk:J<=K):Kb K r:=fun i=>(h i).mono hk
theorem Kb.mem {K:Nat} {r:List Int} (h:Kb K r):∀ x∈r,Jo K x:=fun x hx=>by
 obtain⟨i,hi,rfl⟩:=List.mem_iff_getElem.1 hx;have:=h i;rwa [List.getD_eq_getElem?_getD,List.getElem?_eq_getElem hi] at this
theorem Ms {K:Nat} {r:List Int} (h:∀ x∈r,Jo K x):Kb K r:=L9 h
theorem Kb.prim {K:Nat} {r:List Int} (h:Kb K r):Kb K (prim r):=Zft h
theorem Kb.trim {K:Nat} {r:List Int} (h:Kb K r):Kb K (Zj r):=fun i=>by rw [Jh];exact h i
def top (r:List Int):Int:=r.getD (r.length-1) 0
def Kf (r d:List Int) (a b:Int) (n:Nat):List Int:=(List.range n).map fun i=>if r.length-d.length<=i then a*r.getD i 0-b*d.getD (i-(r.length-d.length)) 0 else a*r.getD i 0
theorem X8 (r d:List Int) (a b:Int) (n:Nat):(Kf r d a b n).length=n:=by simp [Kf]
theorem Wm (f:Nat->Int) (n i:Nat):((List.range n).map f).getD i 0=if i<n then f i else 0:=by
 rw[List.getD_eq_getElem?_getD,List.getElem?_map];by_cases h:i<n
 ·rw[List.getElem?_range h,if_pos h];rfl
 ·rw[List.getElem?_eq_none (by simpa using h),if_neg h];rfl
theorem Uo (r d:List Int) (a b:Int) (n i:Nat):(Kf r d a b n).getD i 0=if i<n then (if r.length-d.length<=i then a*r.getD i 0-b*d.getD (i-(r.length-d.length)) 0 else a*r.getD i 0) else 0:=Wm _ _ _
theorem Zfd {J K:Nat} {r d:List Int} {a b:Int} (hr:Kb J r) (hd:Kb K d) (ha:Jo K a) (hb:Jo J b) (n:Nat):Kb (J+K+1) (Kf r d a b n):=by
 intro i;rw[Uo];have h1:=(Jo.mul ha (hr i));have h2:=(Jo.mul hb (hd (i-(r.length-d.length))));rw[Nat.add_comm] at h1;split
 ·split
  ·exact h1.add h2.neg
  ·exact h1.mono (by omega)
 ·exact Wo _
theorem Zf3 {r d:List Int} {a b:Int} (hd:d ≠ []) (hl:d.length<=r.length) (h:a*top r=b*top d) (i:Nat):(Kf r d a b r.length).getD i 0=(Kf r d a b (r.length-1)).getD i 0:=by
 have:=List.length_pos_iff.2 hd;rw[Uo,Uo];by_cases h1:i<r.length-1
 ·rw[if_pos h1,if_pos (by omega)]
 ·rw[if_neg h1];split
  ·have:i=r.length-1:=by omega
   subst this;rw[if_pos (by omega),show r.length-1-(r.length-d.length)=d.length-1 by omega];unfold top at h;omega
  ·rfl
theorem Zb5 (r d:List Int) (k a b:Int) (n i:Nat):(Kf r d (k*a) (k*b) n).getD i 0=k*(Kf r d a b n).getD i 0:=by
 rw[Uo,Uo];split
 ·split
  ·rw[Int.mul_sub,Int.mul_assoc,Int.mul_assoc]
  ·rw[Int.mul_assoc]
 ·simp
theorem Zb6 (r d:List Int) (c a b:Int) (n:Nat):Kf r (Zw c d) a b n=Kf r d a (b*c) n:=by
 apply W0 (by rw[X8,X8]);intro i;rw[Uo,Uo,Z2,show (Zw c d).length=d.length by simp[Zw]];rw[Int.mul_assoc]
def sg (n:Int):Int:=if n<0 then -1 else 1
theorem sg_mul (n:Int):sg n*n=(n.natAbs:Int):=by unfold sg;split <;> omega
def Uj (r d:List Int):List Int:=prim (Kf r d ((top d).natAbs:Int) (sg (top d)*top r) r.length)
def Ul:Nat->List Int->List Int->List Int
 | 0,r,_=>r
 | f+1,r,d=>if d.length<=r.length then Ul f (Uj r d) d else r
theorem Lv (r d:List Int):((top d).natAbs:Int)*top r=sg (top d)*top r*top d:=by
 rw[<- sg_mul];grind
theorem Zea {r d:List Int} (hd:d ≠ []) (hl:d.length<=r.length):Uj r d=prim (Kf r d ((top d).natAbs:Int) (sg (top d)*top r) (r.length-1)) :=
 T3 (Zf3 hd hl (Lv r d))
theorem Kr {r d:List Int} (hd:d ≠ []) (hl:d.length<=r.length):(Uj r d).length<r.length:=by
 have:=List.length_pos_iff.2 hd;rw[Zea hd hl,Qt];have:=Jj (Kf r d ((top d).natAbs:Int) (sg (top d)*top r) (r.length-1));rw[X8] at this;omega
theorem Zdf (c:Int) (d:List Int):top (Zw c d)=c*top d:=by
 unfold top;rw[Z2,show (Zw c d).length=d.length by simp[Zw]]
theorem Zbl {c:Int} (hc:0<c) (n:Int):sg (c*n)=sg n:=by
 unfold sg;have:c*n<0↔n<0:=by
  constructor
  ·intro h;apply Int.not_le.1;intro hn;have:=Int.mul_nonneg (show 0<=c by omega) hn;omega
  ·intro h;exact Int.mul_neg_of_pos_of_neg hc h
 simp only[this]
theorem Zbq {r d:List Int} {c g a b:Int} (hc:0<c) (hg:0<g) (ha:g*a=((top d).natAbs:Int)) (hb:g*b=sg (top d)*top r):Uj r (Zw c d)=prim (Kf r d a b r.length):=by
 unfold Uj;rw[Zb6,Zdf,Zbl hc,Int.natAbs_mul];apply Gc (k:=c*g) (Int.mul_pos hc hg);intro i;rw[<- Zb5];congr 2
 ·rw[Int.mul_assoc,ha,Int.natCast_mul,Int.natAbs_of_nonneg (by omega)]
 ·rw[Int.mul_assoc c g b,hb];grind
theorem Nj (r d:List Int):Xw (Uj r d):=Jw _
theorem Ax {K:Nat} {d:List Int} (h:Kb K d):Jo K (top d):=h _
theorem My {K:Nat} {n:Int} (h:Jo K n):Jo K (n.natAbs:Int):=by unfold Jo at *;rwa [Int.natAbs_natCast]
theorem Zqs {K:Nat} {m n:Int} (h:Jo K n):Jo K (sg m*n):=by
 unfold Jo sg at *;split <;> simpa using h
theorem Zak {J K:Nat} {r d:List Int} (hr:Kb J r) (hd:Kb K d):Kb (J+K+1) (Uj r d) :=
 (Zfd hr hd (My (Ax hd)) (Zqs (Ax hr)) _).prim
theorem T0 {d:List Int} (hd:d ≠ []) {K:Nat} (hK:Kb K d):∀ (f:Nat) (r:List Int) (J:Nat),r.length<=f->Xw r->Kb J r ->
  Xw (Ul f r d)/\(Ul f r d).length<d.length/\Kb (J+(r.length+1-d.length)*(K+1)) (Ul f r d):=by
 have hd1:=List.length_pos_iff.2 hd;intro f;induction f with
 | zero =>
  intro r J h1 h2 h3;exact⟨h2,by simp only[Ul];omega,h3.mono (Nat.le_add_right _ _)⟩
 | succ f ih =>
  intro r J h1 h2 h3;simp only[Ul];split
  ·rename_i hl;have hp:=Kr hd hl;obtain⟨a1,a2,a3⟩:=ih (Uj r d) (J+K+1) (by omega) (Nj r d) (Zak h3 hK);refine⟨a1,a2,a3.mono ?_⟩;have e:((Uj r d).length+1-d.length)+1<=r.length+1-d.length:=by omega
   have:=Nat.mul_le_mul_right (K+1) e;rw[Nat.add_mul,Nat.one_mul] at this;omega
  ·exact⟨h2,by omega,h3.mono (Nat.le_add_right _ _)⟩
def Qs (x y:List Int):List Int:=Ul x.length x y
def F4:Nat->List Int->List Int->List Int
 | 0,x,_=>x
 | f+1,x,y=>if y=[] then x else F4 f y (Qs x y)
def Jq (x:List Int):List Int:=if top x<0 then Xz x else x
theorem Hm (d:List Int):∀ (f:Nat) (r:List Int),prim r=r->prim (Ul f r d)=Ul f r d:=by
 intro f;induction f with
 | zero=>intro r h;exact h
 | succ f ih =>
  intro r h;simp only[Ul];split
  ·exact ih _ (Q8 _)
  ·exact h
theorem Xb {r:List Int} (h:prim r=r):Xw r:=h ▸ Jw r
theorem Zdh {m l:Nat} (h:l<m):(m-l+2)*3^l<=3^m:=by
 obtain⟨k,rfl⟩:∃ k,m=l+1+k:=⟨m-l-1,by omega⟩;rw[show l+1+k-l+2=k+3 by omega,show l+1+k=(k+1)+l by omega,Nat.pow_add];apply Nat.mul_le_mul_right;clear h;induction k with
 | zero=>decide
 | succ k ih=>rw[Nat.pow_succ];omega
def phi (n m:Nat):Nat:=(n-m+2)*3^m
theorem Bc {x y:List Int} {M:Nat} (hM:0<M) (hx:Xw x) (hy:y ≠ []) (kx:Kb (M-1) x) (ky:Kb (M-1) y) (hl:y.length<=x.length) :
  Xw (Qs x y)/\(Qs x y).length<y.length/\Kb (M*(x.length-y.length+2)-1) (Qs x y):=by
 obtain⟨a,b,c⟩:=T0 hy ky x.length x (M-1) (Nat.le_refl _) hx kx;refine⟨a,b,c.mono ?_⟩;rw[Nat.sub_add_cancel hM,show x.length+1-y.length=x.length-y.length+1 by omega,Nat.mul_comm _ M];have:M*(x.length-y.length+2)=M*(x.length-y.length+1)+M:=by rw[<- Nat.mul_succ]
 omega
theorem Bd {n m l M T:Nat} (hl:l<m) (h:M*phi n m<=T):M*(n-m+2)*phi m l<=T:=by
 refine Nat.le_trans ?_ h;unfold phi;rw[Nat.mul_assoc];apply Nat.mul_le_mul_left;apply Nat.mul_le_mul_left;exact Zdh hl
theorem R4 {n m c:Nat} (h:m<=n) (hn:n<=c):phi n m<=2*3^c:=by
 have h1:phi n m<=2*3^n:=by
  unfold phi;obtain⟨k,rfl⟩:∃ k,n=m+k:=⟨n-m,by omega⟩;rw[show m+k-m+2=k+2 by omega,Nat.pow_add,Nat.mul_comm (3^m),<- Nat.mul_assoc];apply Nat.mul_le_mul_right;clear h hn;induction k with
  | zero=>decide
  | succ k ih=>rw[Nat.pow_succ];omega
 exact Nat.le_trans h1 (Nat.mul_le_mul_left _ (Nat.pow_le_pow_right (by decide) hn))
def Z8 (p:List Int):List Int:=Zj ((List.range (p.length-1)).map fun j=>p.getD (j+1) 0*((j+1:Nat):Int))
theorem J9 (p:List Int) (i:Nat):(Z8 p).getD i 0=p.getD (i+1) 0*((i+1:Nat):Int):=by
 unfold Z8;rw[Jh,Wm];split
 ·rfl
 ·rw[Qi (xs:=p) (by omega),Int.zero_mul]
end Go.Ai

namespace Go.Ai
open Go.IntKind (i64 u64 u32)
theorem Ly {a b:Int} {us bs cs:List Int} (h:∀ i,cs.getD i 0=a*us.getD i 0+b*bs.getD i 0) (x:Int):Zd cs x=a*Zd us x+b*Zd bs x:=by
 have e:Zd cs x=Zd (Gs (Zw a us) (Zw b bs)) x:=Va (fun i=>by rw[h,Xa,Z2,Z2]) x;rw[e,Qo,Zm,Zm]
def U8 (k:Nat) (q:List Int):List Int:=List.replicate k 0++q
theorem Qw (k:Nat) (q:List Int) (i:Nat):(U8 k q).getD i 0=if k<=i then q.getD (i-k) 0 else 0:=by
 simp only[U8,List.getD_eq_getElem?_getD,List.getElem?_append,List.length_replicate];split
 ·rename_i h;rw[if_neg (by omega),List.getElem?_replicate_of_lt h];rfl
 ·rename_i h;rw[if_pos (by omega)]
theorem Ud (k:Nat) (q:List Int) (x:Int):Zd (U8 k q) x=x^k*Zd q x:=by
 induction k with
 | zero=>simp[U8]
 | succ k ih =>
  have:U8 (k+1) q=0::U8 k q:=by simp[U8,List.replicate_succ]
  rw[this];simp only[Zd];rw[ih,Int.pow_succ];grind
theorem Pi {r d:List Int} (hl:d.length<=r.length) (a b x:Int):Zd (Kf r d a b r.length) x=a*Zd r x-b*(x^(r.length-d.length)*Zd d x):=by
 rw[<- Ud];have:=Ly (a:=a) (b := -b) (us:=r) (bs:=U8 (r.length-d.length) d) (cs:=Kf r d a b r.length) (fun i=>by
  rw[Uo,Qw];by_cases h:i<r.length
  ·rw[if_pos h];split
   ·rw[Int.neg_mul];omega
   ·simp
  ·rw[if_neg h,Qi (show r.length<=i by omega)];have:d.getD (i-(r.length-d.length)) 0=0:=Qi (by omega);split
   ·rw[this];simp
   ·simp) x
 rw[this,Int.neg_mul];omega
theorem J5 (a:Int) (p q:List Int) (i:Nat):(Xx (a::p) q).getD i 0=a*q.getD i 0+(U8 1 (Xx p q)).getD i 0:=by
 simp only[Xx];rw[Xa,Z2];rfl
theorem Mk:∀ (p q:List Int),p ≠ []->q ≠ []->(Xx p q).getD (p.length+q.length-2) 0=top p*top q/\∀ i,p.length+q.length-1<=i->(Xx p q).getD i 0=0
 | [],q,h,_=>absurd rfl h
 | [a],q,_,hq=>by
  have hq1:=List.length_pos_iff.2 hq;refine⟨?_,fun i hi => ?_⟩
  ·rw[J5,Qw,show [a].length+q.length-2=q.length-1 by simp;omega];simp[Xx,top]
  ·rw[J5,Qw,Qi (show q.length<=i by simp at hi;omega)];simp[Xx]
 | a::b::p,q,_,hq=>by
  have hq1:=List.length_pos_iff.2 hq;obtain⟨h1,h2⟩:=Mk (b::p) q (by simp) hq;refine⟨?_,fun i hi => ?_⟩
  ·rw[J5,Qw,if_pos (by simp;omega)];simp only[List.length_cons] at *
   rw[Qi (show q.length<=p.length+1+1+q.length-2 by omega),show p.length+1+1+q.length-2-1=p.length+1+q.length-2 by omega,h1];simp[top]
  ·rw[J5,Qw];simp only[List.length_cons] at *
   rw[Qi (show q.length<=i by omega)];split
   ·rw[h2 _ (by omega)];simp
   ·simp
theorem Jl {p:List Int} (h:Zj p=[]) (x:Int):Zd p x=0:=by rw [<- Vs,h];rfl
def Ko (r q:List Int) (l:Int) (k:Nat):List Int:=(List.range r.length).map fun i=>if k<=i then r.getD i 0-l*q.getD (i-k) 0 else r.getD i 0
theorem Ho (r q:List Int) (l:Int) (k i:Nat) (hk:k+q.length<=r.length):(Ko r q l k).getD i 0=r.getD i 0-l*(U8 k q).getD i 0:=by
 rw[Ko,Wm,Qw];split
 ·split <;> simp
 ·rw[Qi (show r.length<=i by omega),Qi (xs:=q) (show q.length<=i-k by omega)];simp
theorem Uc (r q:List Int) (l:Int) (k:Nat):(Ko r q l k).length=r.length:=by simp [Ko]
def Eo (q:List Int):Nat->List Int->List Int->List Int
 | 0,_,out=>out
 | k+1,r,out=>Eo q k (Ko (Zw (top q) r) q (r.getD (k+q.length-1) 0) k) ((Zw (top q) out).set k (r.getD (k+q.length-1) 0))
theorem Z6 (a:Int) (q:List Int):(Zw a q).length=q.length:=by simp [Zw]
theorem Zq0 {p q:List Int} (hq0:q ≠ []) (ht:0<top q):∀ (k:Nat) (r out:List Int) (c:Int),0<c->k<=out.length->out.length+q.length=r.length+1->(∀ i,k+q.length-1<=i->r.getD i 0=0)->(∀ i,i<k->out.getD i 0=0) ->
  (∀ x,c*Zd p x=Zd q x*Zd out x+Zd r x) ->
  ∃ c' r',0<c'/\(∀ i,q.length-1<=i->r'.getD i 0=0)/\(Eo q k r out).length=out.length/\∀ x,c'*Zd p x=Zd q x*Zd (Eo q k r out) x+Zd r' x:=by
 have hql:=List.length_pos_iff.2 hq0;intro k;induction k with
 | zero =>
  intro r out c hc _ _ hz _ he;exact⟨c,r,hc,fun i hi=>hz i (by omega),rfl,he⟩
 | succ k ih =>
  intro r out c hc hk hl hz hz2 he;simp only[Eo];generalize hlead:r.getD (k+q.length-1) 0=l at *
  have hkr:k+q.length<=(Zw (top q) r).length:=by rw[Z6];omega
  obtain⟨c',r',a1,a2,a3,a4⟩:=ih (Ko (Zw (top q) r) q l k) ((Zw (top q) out).set k l) (top q*c) (Int.mul_pos ht hc) (by rw[List.length_set,Z6];omega) (by rw[List.length_set,Z6,Uc,Z6];exact hl)
   (fun i hi=>by
    rw[Ho _ _ _ _ _ hkr,Z2,Qw];by_cases h1:i=k+q.length-1
    ·subst h1;rw[hlead,if_pos (by omega),show k+q.length-1-k=q.length-1 by omega];unfold top;grind
    ·rw[hz i (by omega),Qi (xs:=q) (show q.length<=i-k by omega)];simp)
   (fun i hi=>by rw[Qm (by omega),Z2,hz2 i (by omega),Int.mul_zero])
   (fun x=>by
    rw[Zei _ _ _ _ (by rw[Z6];omega),Z2,hz2 k (by omega),Zm];have e:=Ly (a:=1) (b := -l) (us:=Zw (top q) r) (bs:=U8 k q) (cs:=Ko (Zw (top q) r) q l k) (fun i=>by rw[Ho _ _ _ _ _ hkr,Int.neg_mul];omega) x;rw[e,Zm,Ud];have:=he x;grind)
  exact⟨c',r',a1,a2,by rw[a3,List.length_set,Z6],a4⟩
theorem Zb7 {p q:List Int} (hq0:q ≠ []) (ht:0<top q) (hl:q.length<=p.length):∃ c' r',0<c'/\(∀ i,q.length-1<=i->r'.getD i 0=0)/\(Eo q (p.length-q.length+1) p (List.replicate (p.length-q.length+1) 0)).length=p.length-q.length+1 /\
  ∀ x,c'*Zd p x=Zd q x*Zd (Eo q (p.length-q.length+1) p (List.replicate (p.length-q.length+1) 0)) x+Zd r' x:=by
 have hql:=List.length_pos_iff.2 hq0;have h:=Zq0 (p:=p) hq0 ht (p.length-q.length+1) p (List.replicate (p.length-q.length+1) 0) 1 (by decide) (by simp) (by simp;omega) (fun i hi=>Qi (by omega)) (fun i _=>J8 _ _) (fun x=>by rw[R5];omega);rw[List.length_replicate] at h;exact h
theorem Zjv {p q o r:List Int} {c:Int} (hc:0<c) (hp:0<top p) (hq0:q ≠ []) (ht:0<top q) (hl:q.length<=p.length) (ho:o.length=p.length-q.length+1) (h:∀ x,c*Zd p x=Zd q x*Zd o x+Zd r x) (z:∀ i,q.length-1<=i->r.getD i 0=0):0<top o:=by
 have hql:=List.length_pos_iff.2 hq0;have ho0:o ≠ []:=by intro h0;rw[h0] at ho;simp at ho
 have h3:=(Mk q o hq0 ho0).1;have hev:∀ x,Zd (Zw c p) x=Zd (Gs (Xx q o) r) x:=fun x=>by rw[Zm,Qo,Z1];exact h x
 have h4:=Ue hev (p.length-1);rw[Z2,Xa,z _ (by omega),show p.length-1=q.length+o.length-2 by omega,h3,Int.add_zero] at h4;have h5:0<top q*top o:=by
  rw[<- h4,show q.length+o.length-2=p.length-1 by omega];exact Int.mul_pos hc hp
 exact Int.pos_of_mul_pos_right h5 ht |> fun h=>h
theorem Li {o:List Int} (h:0<top o):0<top (prim o):=by
 have hl:Xw o:=Aw (Or.inr (by unfold top at h;omega));unfold top;rw[Qt,hl,K1];have hc:0<Qy o:=Hr (by rw[hl];intro h0;rw[h0] at h;simp[top] at h);have hd:=Ba o (o.length-1);rw[K1] at hd;unfold top at h;rw[<- hd] at h;exact Int.pos_of_mul_pos_right h (by omega)
end Go.Ai
