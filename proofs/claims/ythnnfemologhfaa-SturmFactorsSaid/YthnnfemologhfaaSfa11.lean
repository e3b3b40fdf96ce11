/- Texts of the proof of SturmFactors, packed by pack.py: part 11 of 17. -/
import Derived.Test.YthnnfemologhfaaSfa10
namespace Go.Proofs.Ythnnfemologhfaa
open Go.IntKind (i64 u64 u32)
open Go.Ai
set_option maxRecDepth 100000
def Dc (na:Bool) (nb:Bool) (la:Nat) (xa:List AV) (lb:Nat) (xb:List AV) (n:Nat) (cs:List AV) (i:Int) (x:Int) (c:Int) (k:Int):Zk:=(dds 4 (.box [.bool false, .sl 0 []]::(.val (.bool na)::(dds 1 (.val (.bool nb)::(.val (.sl lb xb)::(.own 1 n cs::(.val (.int .i64 i)::(.val (.int .u32 x)::(.val (.int .u64 c)::(dds 28 (.val (.sl la xa)::(.val (.int .i64 (la:Int))::(.val (.int .i64 i)::(dds 4 (.val (.sl lb xb)::(.val (.int .i64 (lb:Int))::(.val (.int .i64 k)::(dds 43 [])))))))))))))))))))
theorem Zld (na:Bool) (nb:Bool) (la:Nat) (xa:List AV) (lb:Nat) (xb:List AV) (n:Nat) (cs:List AV) (i:Int) (x:Int) (c:Int) (k:Int) (ds:List AV) (y z:Int) (c1:(decide (k<(lb:Int)))=true) (n1:0≤k∧k<(lb:Int)) (n2:Zx (List.drop (Int.toNat k*1) xb) 0 1 true=some (.int .u32 y)) (n3:0≤(i64.wrap (i+k))∧(i64.wrap (i+k))<(n:Int)) (n4:Zx cs (Int.toNat (i64.wrap (i+k))*1) 1 true=some (.int .u32 z)) (n5:0≤(i64.wrap (i+k))∧(i64.wrap (i+k))<(n:Int)) (n6:X1 cs (Int.toNat (i64.wrap (i+k))*1) [.int .u32 (u32.wrap (u64.wrap ((u64.wrap ((u64.wrap ((u64.wrap x)*(u64.wrap y)))+(u64.wrap z)))+c)))]=some ds):Za Yir L0 (Dc na nb la xa lb xb n cs i x c k) .norm (Dc na nb la xa lb xb n ds i x (Int.fdiv (u64.wrap ((u64.wrap ((u64.wrap ((u64.wrap x)*(u64.wrap y)))+(u64.wrap z)))+c)) (2^(min (Int.toNat 32) (IntKind.bits .u64)))) (i64.wrap (k+1))):=Za.script (ps:=[(decide (k<(lb:Int)))=true,0≤k∧k<(lb:Int),Zx (List.drop (Int.toNat k*1) xb) 0 1 true=some (.int .u32 y),0≤(i64.wrap (i+k))∧(i64.wrap (i+k))<(n:Int),Zx cs (Int.toNat (i64.wrap (i+k))*1) 1 true=some (.int .u32 z),¬ (32:Int)<0,0≤(i64.wrap (i+k))∧(i64.wrap (i+k))<(n:Int),X1 cs (Int.toNat (i64.wrap (i+k))*1) [.int .u32 (u32.wrap (u64.wrap ((u64.wrap ((u64.wrap ((u64.wrap x)*(u64.wrap y)))+(u64.wrap z)))+c)))]=some ds]) Zi 300 [.b true, .v (.int .u32 y), .v (.int .u32 z), .l ds] [4,5,7,8,9,10,11,12,41,42,43,48,49,50] (by kernel_rfl) ⟨c1,n1,n2,n3,n4,(by decide),n5,n6,trivial⟩
theorem Zlc (na:Bool) (nb:Bool) (la:Nat) (xa:List AV) (lb:Nat) (xb:List AV) (n:Nat) (cs:List AV) (i:Int) (x:Int) (c:Int) (k:Int) (c1:(decide (k<(lb:Int)))=false):Za Yir L0 (Dc na nb la xa lb xb n cs i x c k) (.exit 2) (Dc na nb la xa lb xb n cs i x c k):=Za.script (ps:=[(decide (k<(lb:Int)))=false]) Zi 300 [.b false] [4,5,7,8,9,10,11,12,41,42,43,48,49,50] (by kernel_rfl) ⟨c1,trivial⟩
def Lq (na:Bool) (nb:Bool) (la:Nat) (xa:List AV) (lb:Nat) (xb:List AV) (n:Nat) (cs:List AV) (i:Int):Zk:=(dds 4 (.box [.bool false, .sl 0 []]::(.val (.bool na)::(dds 1 (.val (.bool nb)::(.val (.sl lb xb)::(.own 1 n cs::(dds 31 (.val (.sl la xa)::(.val (.int .i64 (la:Int))::(.val (.int .i64 i)::(dds 50 []))))))))))))
theorem Zf0 (na nb:Bool) (la:Nat) (xa:List AV) (lb:Nat) (xb:List AV) (n:Nat) (cs:List AV) (i:Int) (h:(decide (i<(la:Int)))=false):Za Yir Zgz (Lq na nb la xa lb xb n cs i) (.exit 0) (Lq na nb la xa lb xb n cs i):=Za.script (ps:=[(decide (i<(la:Int)))=false]) Zi 300 [.b false] [4,5,7,8,9,41,42,43] (by kernel_rfl) ⟨h,trivial⟩
theorem Zbj (na nb:Bool) (la:Nat) (xa:List AV) (lb:Nat) (xb:List AV) (n:Nat) (cs ds es:List AV) (i x c k:Int) (h:(decide (i<(la:Int)))=true) (hi:0≤i∧i<(la:Int)) (hx:Zx (List.drop (Int.toNat i*1) xa) 0 1 true=some (.int .u32 x)) (hl:Za Yir (.loop L0) (Dc na nb la xa lb xb n cs i x 0 0) (.exit 2) (Dc na nb la xa lb xb n ds i x c k)) (hix:0≤i64.wrap (i+(lb:Int))∧i64.wrap (i+(lb:Int))<(n:Int)) (hst:X1 ds (Int.toNat (i64.wrap (i+(lb:Int)))*1) [.int .u32 (u32.wrap c)]=some es):Za Yir Zgz (Lq na nb la xa lb xb n cs i) .norm (Lq na nb la xa lb xb n es (i64.wrap (i+1))):=(Za.seq (Za.script (t:=(dds 4 (.box [.bool false, .sl 0 []]::(.val (.bool na)::(dds 1 (.val (.bool nb)::(.val (.sl lb xb)::(.own 1 n cs::(dds 31 (.val (.sl la xa)::(vi (la:Int)::(vi i::(.val (.bool (decide (i<(la:Int))))::(dds 49 [])))))))))))))) (ps:=[]) Zi 300 [] [4,5,7,8,9,41,42,43,44] (by kernel_rfl) trivial) (Za.seq (Za.script (t:=(dds 4 (.box [.bool false, .sl 0 []]::(.val (.bool na)::(dds 1 (.val (.bool nb)::(.val (.sl lb xb)::(.own 1 n cs::(dds 31 (.val (.sl la xa)::(vi (la:Int)::(vi i::(.val (.bool (decide (i<(la:Int))))::(dds 49 [])))))))))))))) (ps:=[(decide (i<(la:Int)))=true]) Zi 300 [.b true] [4,5,7,8,9,41,42,43,44] (by kernel_rfl) ⟨h,trivial⟩) (Za.seq (Za.block_norm (Za.seq (Za.script (t:=(dds 4 (.box [.bool false, .sl 0 []]::(.val (.bool na)::(dds 1 (.val (.bool nb)::(.val (.sl lb xb)::(.own 1 n cs::(vi i::(.val (.int .u32 x)::(dds 29 (.val (.sl la xa)::(vi (la:Int)::(vi i::(.val (.bool (decide (i<(la:Int))))::(vi i::(.mem (List.drop (Int.toNat i*1) xa)::(.val (.int .u32 x)::(dds 46 []))))))))))))))))))) (ps:=[0≤i∧i<(la:Int),Zx (List.drop (Int.toNat i*1) xa) 0 1 true=some (.int .u32 x)]) Zi 300 [.v (.int .u32 x)] [4,5,7,8,9,10,11,41,42,43,44,45,46,47] (by kernel_rfl) ⟨hi,hx,trivial⟩) (Za.seq (Za.script (t:=(dds 4 (.box [.bool false, .sl 0 []]::(.val (.bool na)::(dds 1 (.val (.bool nb)::(.val (.sl lb xb)::(.own 1 n cs::(vi i::(.val (.int .u32 x)::(.val (.int .u64 0)::(dds 28 (.val (.sl la xa)::(vi (la:Int)::(vi i::(.val (.bool (decide (i<(la:Int))))::(vi i::(.mem (List.drop (Int.toNat i*1) xa)::(.val (.int .u32 x)::(dds 46 [])))))))))))))))))))) (ps:=[]) Zi 300 [] [4,5,7,8,9,10,11,12,41,42,43,44,45,46,47] (by kernel_rfl) trivial) (Za.seq (Za.seq (Za.script (t:=(dds 4 (.box [.bool false, .sl 0 []]::(.val (.bool na)::(dds 1 (.val (.bool nb)::(.val (.sl lb xb)::(.own 1 n cs::(vi i::(.val (.int .u32 x)::(.val (.int .u64 0)::(dds 28 (.val (.sl la xa)::(vi (la:Int)::(vi i::(dds 4 (.val (.sl lb xb)::(vi (lb:Int)::(vi 0::(dds 43 [])))))))))))))))))))) (ps:=[]) Zi 300 [] [4,5,7,8,9,10,11,12,41,42,43,48,49,50] (by kernel_rfl) trivial) (Za.block hl)) (Za.script (t:=(dds 4 (.box [.bool false, .sl 0 []]::(.val (.bool na)::(dds 1 (.val (.bool nb)::(.val (.sl lb xb)::(.own 1 n es::(vi i::(.val (.int .u32 x)::(.val (.int .u64 c)::(dds 28 (.val (.sl la xa)::(vi (la:Int)::(vi i::(dds 4 (.val (.sl lb xb)::(vi (lb:Int)::(vi k::(dds 29 (.dup 9::(vi i::(.val (.sl lb xb)::(vi (lb:Int)::(vi (i64.wrap (i+(lb:Int)))::(.val (.int .u64 c)::(.val (.int .u32 (u32.wrap c))::(.ptr 9 (Int.toNat (i64.wrap (i+(lb:Int)))*1)::(dds 6 []))))))))))))))))))))))))))))) (ps:=[0≤(i64.wrap (i+(lb:Int)))∧(i64.wrap (i+(lb:Int)))<(n:Int),X1 ds (Int.toNat (i64.wrap (i+(lb:Int)))*1) [.int .u32 (u32.wrap c)]=some es]) Zi 300 [.l es] [4,5,7,8,9,10,11,12,41,42,43,48,49,50,80,81,82,83,84,85,86,87] (by kernel_rfl) ⟨hix,hst,trivial⟩))))) (Za.script (t:=(dds 4 (.box [.bool false, .sl 0 []]::(.val (.bool na)::(dds 1 (.val (.bool nb)::(.val (.sl lb xb)::(.own 1 n es::(dds 31 (.val (.sl la xa)::(vi (la:Int)::(vi (i64.wrap (i+1))::(dds 50 []))))))))))))) (ps:=[]) Zi 300 [] [4,5,7,8,9,41,42,43] (by kernel_rfl) trivial))))
theorem Zfy (na nb:Bool) (xs ys:List Int) (hx:U32 xs) (hy:U32 ys) (n i:Nat) (hn:n≤1048576) (hib:i+ys.length≤n):∀ (r k:Nat) (out:List Int) (c:Int),r+k=ys.length→out.length=n→U32 out→0≤c∧c<4294967296 →
  Za Yir (.loop L0) (Dc na nb xs.length (lm xs) ys.length (lm ys) n (lm out) (i:Int) (xs.getD i 0) c (k:Int)) (.exit 2)
   (Dc na nb xs.length (lm xs) ys.length (lm ys) n (lm (Hg (xs.getD i 0) ys i r k out c).1) (i:Int) (xs.getD i 0) (Hg (xs.getD i 0) ys i r k out c).2 (ys.length:Int)):=by
 intro r
 induction r with
 | zero =>
  intro k out c hk _ _ _
  have hk':k=ys.length:=by omega
  subst hk'
  exact Za.loop_out (Zlc na nb xs.length (lm xs) ys.length (lm ys) n (lm out) (i:Int) (xs.getD i 0) c (ys.length:Int) (by simp)) (by intro e;cases e)
 | succ r ih =>
  intro k out c hk hl hu hc
  have hai:=Zw hx i
  have hbk:=Zw hy k
  have hok:=Zw hu (i+k)
  obtain⟨w1,w2,w3,w4⟩:=L4 hai hbk hc hok
  have ei:i64.wrap ((i:Int)+(k:Int))=((i+k:Nat):Int):=by rw[w64 (by omega) (by omega)];omega
  have ek:i64.wrap ((k:Int)+1)=((k+1:Nat):Int):=by rw[w64 (by omega) (by omega)];omega
  have hz:=Po (xs:=out) (i:=i+k) (by omega)
  have hyk:=Ju (xs:=ys) (i:=k) (by omega)
  have hst:=Wm (xs:=out) (i:=i+k) (v:=(c+(out.getD (i+k) 0+xs.getD i 0*ys.getD k 0)) % 4294967296) (by omega)
  have eW:u64.wrap (u64.wrap (u64.wrap (u64.wrap (xs.getD i 0)*u64.wrap (ys.getD k 0))+u64.wrap (out.getD (i+k) 0))+c)=c+(out.getD (i+k) 0+xs.getD i 0*ys.getD k 0):=by
   have q1:u64.wrap (xs.getD i 0)=xs.getD i 0:=by rw[Ql];omega
   have q2:u64.wrap (ys.getD k 0)=ys.getD k 0:=by rw[Ql];omega
   have q3:u64.wrap (out.getD (i+k) 0)=out.getD (i+k) 0:=by rw[Ql];omega
   rw[q1,q2,q3,Ql,Ql,Ql]
   omega
  have eS:Int.fdiv (c+(out.getD (i+k) 0+xs.getD i 0*ys.getD k 0)) (2^(min (Int.toNat 32) (IntKind.bits .u64)))=(c+(out.getD (i+k) 0+xs.getD i 0*ys.getD k 0)) / 4294967296:=by
   show Int.fdiv _ 4294967296=_
   rw[Int.fdiv_eq_ediv_of_nonneg _ (by omega)]
  have h1:=Zld na nb xs.length (lm xs) ys.length (lm ys) n (lm out) (i:Int) (xs.getD i 0) c (k:Int) (lm (out.set (i+k) ((c+(out.getD (i+k) 0+xs.getD i 0*ys.getD k 0)) % 4294967296))) (ys.getD k 0) (out.getD (i+k) 0)
   (by simp;omega) (by omega) (by rw[Int.toNat_natCast];exact hyk) (by rw[ei];omega) (by rw[ei,Int.toNat_natCast];exact hz) (by rw[ei];omega) (by rw[ei,Int.toNat_natCast,eW,Gb];exact hst)
  rw[eW,eS,ek] at h1
  exact Za.loop h1 (ih (k+1) _ _ (by omega) (by simpa using hl) (Q6 hu (by omega)) (by omega))
theorem Zks (na nb:Bool) (xs ys:List Int) (hx:U32 xs) (hy:U32 ys) (hN:xs.length+ys.length≤1048576):∀ (r i:Nat) (out:List Int),r+i=xs.length→out.length=xs.length+ys.length→U32 out→(∀ j,i+ys.length≤j→out.getD j 0=0) →
  ∃ out',out'.length=xs.length+ys.length∧U32 out'∧Zn out'=Zn out+4294967296^i*(Zn (xs.drop i)*Zn ys) ∧
   Za Yir (.loop Zgz) (Lq na nb xs.length (lm xs) ys.length (lm ys) (xs.length+ys.length) (lm out) (i:Int)) (.exit 0) (Lq na nb xs.length (lm xs) ys.length (lm ys) (xs.length+ys.length) (lm out') (xs.length:Int)):=by
 intro r
 induction r with
 | zero =>
  intro i out hi hl hu _
  have hi':i=xs.length:=by omega
  subst hi'
  refine⟨out,hl,hu,by simp[Zn],?_⟩
  exact Za.loop_out (Zf0 na nb xs.length (lm xs) ys.length (lm ys) (xs.length+ys.length) (lm out) (xs.length:Int) (by simp)) (by intro e;cases e)
 | succ r ih =>
  intro i out hi hl hu hz
  have hai:=Zw hx i
  have hlt:i<xs.length:=by omega
  have hin:=Zfy na nb xs ys hx hy (xs.length+ys.length) i hN (by omega) ys.length 0 out 0 (by omega) hl hu (by omega)
  obtain⟨g1,g2,g3,g4,g5⟩:=S9 (i:=i) hai hy ys.length 0 out 0 (by omega) (by omega) hu (by omega)
  generalize Hg (xs.getD i 0) ys i ys.length 0 out 0=q at *
  obtain⟨ds,c⟩:=q
  dsimp only at g1 g2 g3 g4 g5 hin
  have ei:i64.wrap ((i:Int)+(ys.length:Int))=((i+ys.length:Nat):Int):=by rw[w64 (by omega) (by omega)];omega
  have ei1:i64.wrap ((i:Int)+1)=((i+1:Nat):Int):=by rw[w64 (by omega) (by omega)];omega
  have ec:u32.wrap c=c:=by rw[Gb];omega
  have hst:=Wm (xs:=ds) (i:=i+ys.length) (v:=c) (by omega)
  have hxi:=Ju (xs:=xs) (i:=i) hlt
  have h1:=Zbj na nb xs.length (lm xs) ys.length (lm ys) (xs.length+ys.length) (lm out) (lm ds) (lm (ds.set (i+ys.length) c)) (i:Int) (xs.getD i 0) c (ys.length:Int) (by simp;omega) (by omega) (by rw[Int.toNat_natCast];exact hxi) hin (by rw[ei];omega) (by rw[ei,Int.toNat_natCast,ec];exact hst)
  rw[ei1] at h1
  obtain⟨out',k1,k2,k3,k4⟩:=ih (i+1) (ds.set (i+ys.length) c) (by omega) (by simp;omega) (Q6 g2 g3) (fun j hj=>by rw[H8 (by omega),g5 j (by omega),hz j (by omega)])
  refine⟨out',k1,k2,?_,Za.loop h1 k4⟩
  have hv:Zn (ds.set (i+ys.length) c)=Zn out+4294967296^i*(xs.getD i 0*Zn ys):=by
   rw[J0 ds _ _ (by omega),g5 _ (Nat.le_refl _),hz _ (Nat.le_refl _)]
   simp only[Nat.add_zero,List.drop_zero,Int.zero_add,Int.sub_zero] at g4 ⊢
   exact g4
  have hd:Zn (xs.drop i)=xs.getD i 0+4294967296*Zn (xs.drop (i+1)):=Qs xs i
  rw[k3,hv,hd,Int.pow_succ]
  generalize (4294967296:Int)^i=p at *
  generalize Zn (xs.drop (i+1))=V at *
  grind
theorem Zfm (na:Bool) (xs:List Int) (nb:Bool) (ys:List Int) (a b:Int) (h1:Zd Yir 122 [.agg [.bool na, .sl xs.length (lm xs)]] (.tup [.bool (decide (a<0)), .sl (Zb (Int.natAbs a)).length (lm (Zb (Int.natAbs a)))])) (h2:Zd Yir 122 [.agg [.bool nb, .sl ys.length (lm ys)]] (.tup [.bool (decide (b<0)), .sl (Zb (Int.natAbs b)).length (lm (Zb (Int.natAbs b)))])) (z:((((Zb (Int.natAbs a)).length:Nat):Int)==0)=true):Zd Yir 113 [.agg [.bool na, .sl xs.length (lm xs)], .agg [.bool nb, .sl ys.length (lm ys)]] (.agg [.bool false, .sl 0 []]):=Zd.script (ps:=[Zd Yir 122 [.agg [.bool na, .sl xs.length (lm xs)]] (.tup [.bool (decide (a<0)), .sl ((Zb (Int.natAbs a)).length) (lm (Zb (Int.natAbs a)))]),Zd Yir 122 [.agg [.bool nb, .sl ys.length (lm ys)]] (.tup [.bool (decide (b<0)), .sl ((Zb (Int.natAbs b)).length) (lm (Zb (Int.natAbs b)))]),((((Zb (Int.natAbs a)).length:Nat):Int)==0)=true,true=true]) Zi rfl 300 rfl [.r (.tup [.bool (decide (a<0)), .sl ((Zb (Int.natAbs a)).length) (lm (Zb (Int.natAbs a)))]), .r (.tup [.bool (decide (b<0)), .sl ((Zb (Int.natAbs b)).length) (lm (Zb (Int.natAbs b)))]), .b true, .b true] (by kernel_rfl) ⟨h1,h2,z,rfl,trivial⟩
theorem Zfl (na:Bool) (xs:List Int) (nb:Bool) (ys:List Int) (a b:Int) (h1:Zd Yir 122 [.agg [.bool na, .sl xs.length (lm xs)]] (.tup [.bool (decide (a<0)), .sl (Zb (Int.natAbs a)).length (lm (Zb (Int.natAbs a)))])) (h2:Zd Yir 122 [.agg [.bool nb, .sl ys.length (lm ys)]] (.tup [.bool (decide (b<0)), .sl (Zb (Int.natAbs b)).length (lm (Zb (Int.natAbs b)))])) (y:((((Zb (Int.natAbs a)).length:Nat):Int)==0)=false) (z:((((Zb (Int.natAbs b)).length:Nat):Int)==0)=true):Zd Yir 113 [.agg [.bool na, .sl xs.length (lm xs)], .agg [.bool nb, .sl ys.length (lm ys)]] (.agg [.bool false, .sl 0 []]):=Zd.script (ps:=[Zd Yir 122 [.agg [.bool na, .sl xs.length (lm xs)]] (.tup [.bool (decide (a<0)), .sl ((Zb (Int.natAbs a)).length) (lm (Zb (Int.natAbs a)))]),Zd Yir 122 [.agg [.bool nb, .sl ys.length (lm ys)]] (.tup [.bool (decide (b<0)), .sl ((Zb (Int.natAbs b)).length) (lm (Zb (Int.natAbs b)))]),((((Zb (Int.natAbs a)).length:Nat):Int)==0)=false,((((Zb (Int.natAbs b)).length:Nat):Int)==0)=true]) Zi rfl 300 rfl [.r (.tup [.bool (decide (a<0)), .sl ((Zb (Int.natAbs a)).length) (lm (Zb (Int.natAbs a)))]), .r (.tup [.bool (decide (b<0)), .sl ((Zb (Int.natAbs b)).length) (lm (Zb (Int.natAbs b)))]), .b false, .b true] (by kernel_rfl) ⟨h1,h2,y,z,trivial⟩
theorem Zfk (na:Bool) (xs:List Int) (nb:Bool) (ys:List Int) (a b:Int) (h1:Zd Yir 122 [.agg [.bool na, .sl xs.length (lm xs)]] (.tup [.bool (decide (a<0)), .sl (Zb (Int.natAbs a)).length (lm (Zb (Int.natAbs a)))])) (h2:Zd Yir 122 [.agg [.bool nb, .sl ys.length (lm ys)]] (.tup [.bool (decide (b<0)), .sl (Zb (Int.natAbs b)).length (lm (Zb (Int.natAbs b)))])) (out:List Int) (r:Int) (y:((((Zb (Int.natAbs a)).length:Nat):Int)==0)=false) (z:((((Zb (Int.natAbs b)).length:Nat):Int)==0)=false) (hmk:0≤i64.wrap ((((Zb (Int.natAbs a)).length:Nat):Int)+(((Zb (Int.natAbs b)).length:Nat):Int))∧i64.wrap ((((Zb (Int.natAbs a)).length:Nat):Int)+(((Zb (Int.natAbs b)).length:Nat):Int))≤1048576) (hl:Za Yir (.loop Zgz) (Lq (decide (a<0)) (decide (b<0)) (Zb (Int.natAbs a)).length (lm (Zb (Int.natAbs a))) (Zb (Int.natAbs b)).length (lm (Zb (Int.natAbs b))) (Int.toNat (i64.wrap ((((Zb (Int.natAbs a)).length:Nat):Int)+(((Zb (Int.natAbs b)).length:Nat):Int)))) (Qv [.int .u32 0] (Int.toNat (i64.wrap ((((Zb (Int.natAbs a)).length:Nat):Int)+(((Zb (Int.natAbs b)).length:Nat):Int))))) 0) (.exit 0) (Lq (decide (a<0)) (decide (b<0)) (Zb (Int.natAbs a)).length (lm (Zb (Int.natAbs a))) (Zb (Int.natAbs b)).length (lm (Zb (Int.natAbs b))) (Int.toNat (i64.wrap ((((Zb (Int.natAbs a)).length:Nat):Int)+(((Zb (Int.natAbs b)).length:Nat):Int)))) (lm out) (((Zb (Int.natAbs a)).length:Nat):Int))) (h3:Zd Yir 133 [.bool (!((decide (a<0))==(decide (b<0)))), .sl (Int.toNat (i64.wrap ((((Zb (Int.natAbs a)).length:Nat):Int)+(((Zb (Int.natAbs b)).length:Nat):Int)))) (lm out)] (.agg [.bool (decide (r<0)), .sl ((Zb (Int.natAbs r)).length) (lm (Zb (Int.natAbs r)))])):Zd Yir 113 [.agg [.bool na, .sl xs.length (lm xs)], .agg [.bool nb, .sl ys.length (lm ys)]] (.agg [.bool (decide (r<0)), .sl ((Zb (Int.natAbs r)).length) (lm (Zb (Int.natAbs r)))]):=Zd.of_bodyW (fn:=Zgi) (s:=(dds 4 (.box [.bool (decide (r<0)), .sl ((Zb (Int.natAbs r)).length) (lm (Zb (Int.natAbs r)))]::(.val (.bool (decide (a<0)))::(dds 1 (.val (.bool (decide (b<0)))::(.val (.sl ((Zb (Int.natAbs b)).length) (lm (Zb (Int.natAbs b))))::(.val (.sl (Int.toNat (i64.wrap ((((Zb (Int.natAbs a)).length:Nat):Int)+(((Zb (Int.natAbs b)).length:Nat):Int)))) (lm out))::(dds 31 (.val (.sl ((Zb (Int.natAbs a)).length) (lm (Zb (Int.natAbs a))))::(.val (.int .i64 (((Zb (Int.natAbs a)).length:Nat):Int))::(.val (.int .i64 (((Zb (Int.natAbs a)).length:Nat):Int))::(dds 45 (.val (.bool (decide (a<0)))::(.val (.bool (decide (b<0)))::(.val (.bool (!((decide (a<0))==(decide (b<0)))))::(.val (.sl (Int.toNat (i64.wrap ((((Zb (Int.natAbs a)).length:Nat):Int)+(((Zb (Int.natAbs b)).length:Nat):Int)))) (lm out))::(.val (.agg [.bool (decide (r<0)), .sl ((Zb (Int.natAbs r)).length) (lm (Zb (Int.natAbs r)))])::[])))))))))))))))))) (ex := .ret) rfl rfl (Za.seq (Za.script (t:=(.val (.agg [.bool na, .sl xs.length (lm xs)])::(.val (.agg [.bool nb, .sl ys.length (lm ys)])::(.box [.bool na, .sl xs.length (lm xs)]::(.box [.bool nb, .sl ys.length (lm ys)]::(.box [.bool false, .sl 0 []]::(dds 89 []))))))) (ps:=[]) Zi 300 [] [0,1,2,3,4] (by kernel_rfl) trivial) (Za.seq (Za.script (t:=(.val (.agg [.bool na, .sl xs.length (lm xs)])::(.val (.agg [.bool nb, .sl ys.length (lm ys)])::(.box [.bool na, .sl xs.length (lm xs)]::(.box [.bool nb, .sl ys.length (lm ys)]::(.box [.bool false, .sl 0 []]::(.val (.bool (decide (a<0)))::(.val (.sl ((Zb (Int.natAbs a)).length) (lm (Zb (Int.natAbs a))))::(dds 9 (.val (.tup [.bool (decide (a<0)), .sl ((Zb (Int.natAbs a)).length) (lm (Zb (Int.natAbs a)))])::(.val (.agg [.bool na, .sl xs.length (lm xs)])::(.val (.tup [.bool (decide (a<0)), .sl ((Zb (Int.natAbs a)).length) (lm (Zb (Int.natAbs a)))])::(.val (.bool (decide (a<0)))::(.val (.sl ((Zb (Int.natAbs a)).length) (lm (Zb (Int.natAbs a))))::(dds 73 []))))))))))))))) (ps:=[Zd Yir 122 [.agg [.bool na, .sl xs.length (lm xs)]] (.tup [.bool (decide (a<0)), .sl ((Zb (Int.natAbs a)).length) (lm (Zb (Int.natAbs a)))])]) Zi 300 [.r (.tup [.bool (decide (a<0)), .sl ((Zb (Int.natAbs a)).length) (lm (Zb (Int.natAbs a)))])] [0,1,2,3,4,5,6,16,17,18,19,20] (by kernel_rfl) ⟨h1,trivial⟩) (Za.seq (Za.script (t:=(.val (.agg [.bool na, .sl xs.length (lm xs)])::(.val (.agg [.bool nb, .sl ys.length (lm ys)])::(.box [.bool na, .sl xs.length (lm xs)]::(.box [.bool nb, .sl ys.length (lm ys)]::(.box [.bool false, .sl 0 []]::(.val (.bool (decide (a<0)))::(.val (.sl ((Zb (Int.natAbs a)).length) (lm (Zb (Int.natAbs a))))::(.val (.bool (decide (b<0)))::(.val (.sl ((Zb (Int.natAbs b)).length) (lm (Zb (Int.natAbs b))))::(dds 7 (.val (.tup [.bool (decide (a<0)), .sl ((Zb (Int.natAbs a)).length) (lm (Zb (Int.natAbs a)))])::(.val (.agg [.bool na, .sl xs.length (lm xs)])::(.val (.tup [.bool (decide (a<0)), .sl ((Zb (Int.natAbs a)).length) (lm (Zb (Int.natAbs a)))])::(.val (.bool (decide (a<0)))::(.val (.sl ((Zb (Int.natAbs a)).length) (lm (Zb (Int.natAbs a))))::(.val (.tup [.bool (decide (b<0)), .sl ((Zb (Int.natAbs b)).length) (lm (Zb (Int.natAbs b)))])::(.val (.agg [.bool nb, .sl ys.length (lm ys)])::(.val (.tup [.bool (decide (b<0)), .sl ((Zb (Int.natAbs b)).length) (lm (Zb (Int.natAbs b)))])::(.val (.bool (decide (b<0)))::(.val (.sl ((Zb (Int.natAbs b)).length) (lm (Zb (Int.natAbs b))))::(dds 68 [])))))))))))))))))))))) (ps:=[Zd Yir 122 [.agg [.bool nb, .sl ys.length (lm ys)]] (.tup [.bool (decide (b<0)), .sl ((Zb (Int.natAbs b)).length) (lm (Zb (Int.natAbs b)))])]) Zi 300 [.r (.tup [.bool (decide (b<0)), .sl ((Zb (Int.natAbs b)).length) (lm (Zb (Int.natAbs b)))])] [0,1,2,3,4,5,6,7,8,16,17,18,19,20,21,22,23,24,25] (by kernel_rfl) ⟨h2,trivial⟩) (Za.seq (Za.script (t:=(.val (.agg [.bool na, .sl xs.length (lm xs)])::(.val (.agg [.bool nb, .sl ys.length (lm ys)])::(.box [.bool na, .sl xs.length (lm xs)]::(.box [.bool nb, .sl ys.length (lm ys)]::(.box [.bool false, .sl 0 []]::(.val (.bool (decide (a<0)))::(.val (.sl ((Zb (Int.natAbs a)).length) (lm (Zb (Int.natAbs a))))::(.val (.bool (decide (b<0)))::(.val (.sl ((Zb (Int.natAbs b)).length) (lm (Zb (Int.natAbs b))))::(dds 7 (.val (.tup [.bool (decide (a<0)), .sl ((Zb (Int.natAbs a)).length) (lm (Zb (Int.natAbs a)))])::(.val (.agg [.bool na, .sl xs.length (lm xs)])::(.val (.tup [.bool (decide (a<0)), .sl ((Zb (Int.natAbs a)).length) (lm (Zb (Int.natAbs a)))])::(.val (.bool (decide (a<0)))::(.val (.sl ((Zb (Int.natAbs a)).length) (lm (Zb (Int.natAbs a))))::(.val (.tup [.bool (decide (b<0)), .sl ((Zb (Int.natAbs b)).length) (lm (Zb (Int.natAbs b)))])::(.val (.agg [.bool nb, .sl ys.length (lm ys)])::(.val (.tup [.bool (decide (b<0)), .sl ((Zb (Int.natAbs b)).length) (lm (Zb (Int.natAbs b)))])::(.val (.bool (decide (b<0)))::(.val (.sl ((Zb (Int.natAbs b)).length) (lm (Zb (Int.natAbs b))))::(.val (.sl ((Zb (Int.natAbs a)).length) (lm (Zb (Int.natAbs a))))::(vi (((Zb (Int.natAbs a)).length:Nat):Int)::(.val (.bool ((((Zb (Int.natAbs a)).length:Nat):Int)==0))::(.val (.bool ((((Zb (Int.natAbs a)).length:Nat):Int)==0))::(.val (.sl ((Zb (Int.natAbs b)).length) (lm (Zb (Int.natAbs b))))::(vi (((Zb (Int.natAbs b)).length:Nat):Int)::(.val (.bool ((((Zb (Int.natAbs b)).length:Nat):Int)==0))::(.val (.bool ((((Zb (Int.natAbs b)).length:Nat):Int)==0))::(dds 60 [])))))))))))))))))))))))))))))) (ps:=[((((Zb (Int.natAbs a)).length:Nat):Int)==0)=false,((((Zb (Int.natAbs b)).length:Nat):Int)==0)=false]) Zi 300 [.b false, .b false] [0,1,2,3,4,5,6,7,8,16,17,18,19,20,21,22,23,24,25,26,27,28,29,30,31,32,33] (by kernel_rfl) ⟨y,z,trivial⟩) (Za.seq (Za.script (t:=(.val (.agg [.bool na, .sl xs.length (lm xs)])::(.val (.agg [.bool nb, .sl ys.length (lm ys)])::(.box [.bool na, .sl xs.length (lm xs)]::(.box [.bool nb, .sl ys.length (lm ys)]::(.box [.bool false, .sl 0 []]::(.val (.bool (decide (a<0)))::(.val (.sl ((Zb (Int.natAbs a)).length) (lm (Zb (Int.natAbs a))))::(.val (.bool (decide (b<0)))::(.val (.sl ((Zb (Int.natAbs b)).length) (lm (Zb (Int.natAbs b))))::(.own 1 (Int.toNat (i64.wrap ((((Zb (Int.natAbs a)).length:Nat):Int)+(((Zb (Int.natAbs b)).length:Nat):Int)))) (Qv [.int .u32 0] (Int.toNat (i64.wrap ((((Zb (Int.natAbs a)).length:Nat):Int)+(((Zb (Int.natAbs b)).length:Nat):Int)))))::(dds 6 (.val (.tup [.bool (decide (a<0)), .sl ((Zb (Int.natAbs a)).length) (lm (Zb (Int.natAbs a)))])::(.val (.agg [.bool na, .sl xs.length (lm xs)])::(.val (.tup [.bool (decide (a<0)), .sl ((Zb (Int.natAbs a)).length) (lm (Zb (Int.natAbs a)))])::(.val (.bool (decide (a<0)))::(.val (.sl ((Zb (Int.natAbs a)).length) (lm (Zb (Int.natAbs a))))::(.val (.tup [.bool (decide (b<0)), .sl ((Zb (Int.natAbs b)).length) (lm (Zb (Int.natAbs b)))])::(.val (.agg [.bool nb, .sl ys.length (lm ys)])::(.val (.tup [.bool (decide (b<0)), .sl ((Zb (Int.natAbs b)).length) (lm (Zb (Int.natAbs b)))])::(.val (.bool (decide (b<0)))::(.val (.sl ((Zb (Int.natAbs b)).length) (lm (Zb (Int.natAbs b))))::(.val (.sl ((Zb (Int.natAbs a)).length) (lm (Zb (Int.natAbs a))))::(vi (((Zb (Int.natAbs a)).length:Nat):Int)::(.val (.bool ((((Zb (Int.natAbs a)).length:Nat):Int)==0))::(.val (.bool ((((Zb (Int.natAbs a)).length:Nat):Int)==0))::(.val (.sl ((Zb (Int.natAbs b)).length) (lm (Zb (Int.natAbs b))))::(vi (((Zb (Int.natAbs b)).length:Nat):Int)::(.val (.bool ((((Zb (Int.natAbs b)).length:Nat):Int)==0))::(.val (.bool ((((Zb (Int.natAbs b)).length:Nat):Int)==0))::(dds 1 (.val (.sl ((Zb (Int.natAbs a)).length) (lm (Zb (Int.natAbs a))))::(vi (((Zb (Int.natAbs a)).length:Nat):Int)::(.val (.sl ((Zb (Int.natAbs b)).length) (lm (Zb (Int.natAbs b))))::(vi (((Zb (Int.natAbs b)).length:Nat):Int)::(vi (i64.wrap ((((Zb (Int.natAbs a)).length:Nat):Int)+(((Zb (Int.natAbs b)).length:Nat):Int)))::(dds 54 []))))))))))))))))))))))))))))))))))))) (ps:=[0≤(i64.wrap ((((Zb (Int.natAbs a)).length:Nat):Int)+(((Zb (Int.natAbs b)).length:Nat):Int)))∧(i64.wrap ((((Zb (Int.natAbs a)).length:Nat):Int)+(((Zb (Int.natAbs b)).length:Nat):Int)))≤1048576]) Zi 300 [] ((0)::(1)::(2)::(3)::(4)::(5)::(6)::(7)::(8)::(9)::(16)::(17)::(18)::(19)::(20)::(21)::(22)::(23)::(24)::(25)::(26)::(27)::(28)::(29)::(30)::(31)::(32)::(33)::(35)::(36)::(37)::(38)::(39)::[]) (by kernel_rfl) ⟨hmk,trivial⟩) (Za.seq (Za.seq (Za.script (t:=(dds 4 (.box [.bool false, .sl 0 []]::(.val (.bool (decide (a<0)))::(dds 1 (.val (.bool (decide (b<0)))::(.val (.sl ((Zb (Int.natAbs b)).length) (lm (Zb (Int.natAbs b))))::(.own 1 (Int.toNat (i64.wrap ((((Zb (Int.natAbs a)).length:Nat):Int)+(((Zb (Int.natAbs b)).length:Nat):Int)))) (Qv [.int .u32 0] (Int.toNat (i64.wrap ((((Zb (Int.natAbs a)).length:Nat):Int)+(((Zb (Int.natAbs b)).length:Nat):Int)))))::(dds 31 (.val (.sl ((Zb (Int.natAbs a)).length) (lm (Zb (Int.natAbs a))))::(vi (((Zb (Int.natAbs a)).length:Nat):Int)::(vi 0::(dds 50 []))))))))))))) (ps:=[]) Zi 300 [] [4,5,7,8,9,41,42,43] (by kernel_rfl) trivial) (Za.block hl)) (Za.script (t:=(dds 4 (bN r::(.val (.bool (decide (a<0)))::(dds 1 (.val (.bool (decide (b<0)))::(.val (.sl ((Zb (Int.natAbs b)).length) (lm (Zb (Int.natAbs b))))::(.val (.sl (Int.toNat (i64.wrap ((((Zb (Int.natAbs a)).length:Nat):Int)+(((Zb (Int.natAbs b)).length:Nat):Int)))) (lm out))::(dds 31 (.val (.sl ((Zb (Int.natAbs a)).length) (lm (Zb (Int.natAbs a))))::(vi (((Zb (Int.natAbs a)).length:Nat):Int)::(vi (((Zb (Int.natAbs a)).length:Nat):Int)::(dds 45 (.val (.bool (decide (a<0)))::(.val (.bool (decide (b<0)))::(.val (.bool (!((decide (a<0))==(decide (b<0)))))::(.val (.sl (Int.toNat (i64.wrap ((((Zb (Int.natAbs a)).length:Nat):Int)+(((Zb (Int.natAbs b)).length:Nat):Int)))) (lm out))::(.val (.agg [.bool (decide (r<0)), .sl ((Zb (Int.natAbs r)).length) (lm (Zb (Int.natAbs r)))])::[])))))))))))))))))) (ex := .ret) (ps:=[Zd Yir 133 [.bool (!((decide (a<0))==(decide (b<0)))), .sl (Int.toNat (i64.wrap ((((Zb (Int.natAbs a)).length:Nat):Int)+(((Zb (Int.natAbs b)).length:Nat):Int)))) (lm out)] (.agg [.bool (decide (r<0)), .sl ((Zb (Int.natAbs r)).length) (lm (Zb (Int.natAbs r)))])]) Zi 300 [.r (.agg [.bool (decide (r<0)), .sl ((Zb (Int.natAbs r)).length) (lm (Zb (Int.natAbs r)))])] [4,5,7,8,9,41,42,43,89,90,91,92,93] (by kernel_rfl) ⟨h3,trivial⟩))))))) (by intro i e;cases e) rfl
theorem Zh1 (a b:Int) (zs:List Int) (h:Zn zs=(a.natAbs:Int)*(b.natAbs:Int)):rv (!(decide (a<0)==decide (b<0))) zs=a*b:=by
 unfold rv
 rw[h]
 by_cases g1:a<0 <;> by_cases g2:b<0
 ·have e1:(a.natAbs:Int) = -a:=by omega
  have e2:(b.natAbs:Int) = -b:=by omega
  rw[e1,e2];simp[g1,g2] <;> grind
 ·have e1:(a.natAbs:Int) = -a:=by omega
  have e2:(b.natAbs:Int)=b:=by omega
  rw[e1,e2];simp[g1,g2] <;> grind
 ·have e1:(a.natAbs:Int)=a:=by omega
  have e2:(b.natAbs:Int) = -b:=by omega
  rw[e1,e2];simp[g1,g2] <;> grind
 ·have e1:(a.natAbs:Int)=a:=by omega
  have e2:(b.natAbs:Int)=b:=by omega
  rw[e1,e2];simp[g1,g2]
theorem E0 {na nb:Bool} {xs ys:List Int} (hx:U32 xs) (hy:U32 ys) (hN:xs.length+ys.length≤1048576):Zd Yir 113 [.agg [.bool na, .sl xs.length (lm xs)], .agg [.bool nb, .sl ys.length (lm ys)]] (Zp (rv na xs*rv nb ys)):=by
 have l1:=U7 (neg:=na) hx
 have l2:=U7 (neg:=nb) hy
 have k1:=Jd (neg:=na) hx (by omega)
 have k2:=Jd (neg:=nb) hy (by omega)
 generalize rv na xs=a at *
 generalize rv nb ys=b at *
 have z1:=Jx a.natAbs
 have z2:=Jx b.natAbs
 by_cases ha:a=0
 ·have h:=Zfm na xs nb ys a b k1 k2 (by rw[beq_iff_eq];omega)
  rw[ha,Int.zero_mul]
  exact h
 by_cases hb:b=0
 ·have h:=Zfl na xs nb ys a b k1 k2 (by rw[beq_eq_false_iff_ne];omega) (by rw[beq_iff_eq];omega)
  rw[hb,Int.mul_zero]
  exact h
 have e1:i64.wrap ((((Zb (Int.natAbs a)).length:Nat):Int)+(((Zb (Int.natAbs b)).length:Nat):Int))=(((Zb (Int.natAbs a)).length+(Zb (Int.natAbs b)).length:Nat):Int):=by rw[w64 (by omega) (by omega)];omega
 have e2:(Int.toNat (i64.wrap ((((Zb (Int.natAbs a)).length:Nat):Int)+(((Zb (Int.natAbs b)).length:Nat):Int))))=(Zb (Int.natAbs a)).length+(Zb (Int.natAbs b)).length:=by rw[e1,Int.toNat_natCast]
 obtain⟨out,o1,o2,o3,o4⟩:=Zks (decide (a<0)) (decide (b<0)) (Zb (Int.natAbs a)) (Zb (Int.natAbs b)) (Jr _) (Jr _) (by omega) (Zb (Int.natAbs a)).length 0 (List.replicate ((Zb (Int.natAbs a)).length+(Zb (Int.natAbs b)).length) 0) (by omega) (by simp) (Xy _) (fun j _=>J7 _ j)
 have hv:Zn out=(a.natAbs:Int)*(b.natAbs:Int):=by rw[o3,Xt];simp[J6]
 have h3:=Xv (neg := !(decide (a<0)==decide (b<0))) o2 (by omega)
 rw[Zh1 a b out hv,o1] at h3
 exact Zfk na xs nb ys a b k1 k2 out _ (by rw[beq_eq_false_iff_ne];omega) (by rw[beq_eq_false_iff_ne];omega) (by rw[e1];omega) (by rw[e2,Ue];exact o4) (by rw[e2];exact h3)
def TWC:Js:=TWB
theorem Zy:Qt Yir TWC:=Zi
end Go.Proofs.Ythnnfemologhfaa

namespace Go.Proofs.Ythnnfemologhfaa
open Go.IntKind (i64 u64 u32)
open Go.Ai
set_option maxRecDepth 100000
def Rj (na:Bool) (xs:List Int) (w:Int) (s:Int) (k:Nat) (os:List Int) (n:Int) (i:Int) (z:Rn):Zk:=(dds 4 (.box [.bool z.1, .sl z.2.length (lm z.2)]::(.val (.bool na)::(dds 1 (.val (.int .i64 w)::(.val (.int .u64 s)::(.own 1 k (lm os)::(dds 23 (.val (.sl xs.length (lm xs))::(.val (.int .i64 n)::(.val (.int .i64 i)::(dds 31 []))))))))))))
theorem Zrg (na:Bool) (xs:List Int) (w:Int) (s:Int) (k:Nat) (os:List Int) (n:Int) (i:Int) (z:Rn)  (c1:(decide (i<n))=true) (n1:0≤i∧i<(xs.length:Int)) (n2:¬ s<0) (n3:0≤(i64.wrap (i+w))∧(i64.wrap (i+w))<(k:Int)) (n4:os.length=k) (n5:0≤(i64.wrap ((i64.wrap (i+w))+1))∧(i64.wrap ((i64.wrap (i+w))+1))<(k:Int)) (n6:(os.set (Int.toNat (i64.wrap (i+w))) (u32.wrap ((BitVec.ofInt (IntKind.bits .u32) (os.getD (Int.toNat (i64.wrap (i+w))) 0) ||| BitVec.ofInt (IntKind.bits .u32) (u32.wrap (u64.wrap ((u64.wrap (xs.getD (Int.toNat i) 0))*2^(min (Int.toNat s) (IntKind.bits .u64)))))).toNat))).length=k):Za Yir Zgx (Rj na xs w s k os n i z) .norm (Rj na xs w s k ((os.set (Int.toNat (i64.wrap (i+w))) (u32.wrap ((BitVec.ofInt (IntKind.bits .u32) (os.getD (Int.toNat (i64.wrap (i+w))) 0) ||| BitVec.ofInt (IntKind.bits .u32) (u32.wrap (u64.wrap ((u64.wrap (xs.getD (Int.toNat i) 0))*2^(min (Int.toNat s) (IntKind.bits .u64)))))).toNat))).set (Int.toNat (i64.wrap ((i64.wrap (i+w))+1))) (u32.wrap (Int.fdiv (u64.wrap ((u64.wrap (xs.getD (Int.toNat i) 0))*2^(min (Int.toNat s) (IntKind.bits .u64)))) (2^(min (Int.toNat 32) (IntKind.bits .u64)))))) n (i64.wrap (i+1)) z):=(Za.go Zy 400 [.b true, .v (.int .u32 (xs.getD (Int.toNat i) 0)), .v (.int .u32 (os.getD (Int.toNat (i64.wrap (i+w))) 0)), .l (lm (os.set (Int.toNat (i64.wrap (i+w))) (u32.wrap ((BitVec.ofInt (IntKind.bits .u32) (os.getD (Int.toNat (i64.wrap (i+w))) 0) ||| BitVec.ofInt (IntKind.bits .u32) (u32.wrap (u64.wrap ((u64.wrap (xs.getD (Int.toNat i) 0))*2^(min (Int.toNat s) (IntKind.bits .u64)))))).toNat)))), .l (lm ((os.set (Int.toNat (i64.wrap (i+w))) (u32.wrap ((BitVec.ofInt (IntKind.bits .u32) (os.getD (Int.toNat (i64.wrap (i+w))) 0) ||| BitVec.ofInt (IntKind.bits .u32) (u32.wrap (u64.wrap ((u64.wrap (xs.getD (Int.toNat i) 0))*2^(min (Int.toNat s) (IntKind.bits .u64)))))).toNat))).set (Int.toNat (i64.wrap ((i64.wrap (i+w))+1))) (u32.wrap (Int.fdiv (u64.wrap ((u64.wrap (xs.getD (Int.toNat i) 0))*2^(min (Int.toNat s) (IntKind.bits .u64)))) (2^(min (Int.toNat 32) (IntKind.bits .u64)))))))] [4,5,7,8,9,33,34,35] (ac c1 (ac n1 (ac (Jc n1) (ac n2 (ac n3 (ac (Jn n4 n3) (ac n3 (ac (show X1 (lm os) (Int.toNat (i64.wrap (i+w))*1) [.int .u32 (u32.wrap ((BitVec.ofInt (IntKind.bits .u32) (os.getD (Int.toNat (i64.wrap (i+w))) 0) ||| BitVec.ofInt (IntKind.bits .u32) (u32.wrap (u64.wrap ((u64.wrap (xs.getD (Int.toNat i) 0))*2^(min (Int.toNat s) (IntKind.bits .u64)))))).toNat))]=some (lm (os.set (Int.toNat (i64.wrap (i+w))) (u32.wrap ((BitVec.ofInt (IntKind.bits .u32) (os.getD (Int.toNat (i64.wrap (i+w))) 0) ||| BitVec.ofInt (IntKind.bits .u32) (u32.wrap (u64.wrap ((u64.wrap (xs.getD (Int.toNat i) 0))*2^(min (Int.toNat s) (IntKind.bits .u64)))))).toNat)))) from (Xe n4 n3)) (ac (show ¬ (32:Int)<0 from (by decide)) (ac n5 (ac (show X1 (lm (os.set (Int.toNat (i64.wrap (i+w))) (u32.wrap ((BitVec.ofInt (IntKind.bits .u32) (os.getD (Int.toNat (i64.wrap (i+w))) 0) ||| BitVec.ofInt (IntKind.bits .u32) (u32.wrap (u64.wrap ((u64.wrap (xs.getD (Int.toNat i) 0))*2^(min (Int.toNat s) (IntKind.bits .u64)))))).toNat)))) (Int.toNat (i64.wrap ((i64.wrap (i+w))+1))*1) [.int .u32 (u32.wrap (Int.fdiv (u64.wrap ((u64.wrap (xs.getD (Int.toNat i) 0))*2^(min (Int.toNat s) (IntKind.bits .u64)))) (2^(min (Int.toNat 32) (IntKind.bits .u64)))))]=some (lm ((os.set (Int.toNat (i64.wrap (i+w))) (u32.wrap ((BitVec.ofInt (IntKind.bits .u32) (os.getD (Int.toNat (i64.wrap (i+w))) 0) ||| BitVec.ofInt (IntKind.bits .u32) (u32.wrap (u64.wrap ((u64.wrap (xs.getD (Int.toNat i) 0))*2^(min (Int.toNat s) (IntKind.bits .u64)))))).toNat))).set (Int.toNat (i64.wrap ((i64.wrap (i+w))+1))) (u32.wrap (Int.fdiv (u64.wrap ((u64.wrap (xs.getD (Int.toNat i) 0))*2^(min (Int.toNat s) (IntKind.bits .u64)))) (2^(min (Int.toNat 32) (IntKind.bits .u64))))))) from (Xe n6 n5)) a0))))))))))))
theorem Zrf (na:Bool) (xs:List Int) (w:Int) (s:Int) (k:Nat) (os:List Int) (n:Int) (i:Int) (z:Rn)  (c1:(decide (i<n))=false):Za Yir Zgx (Rj na xs w s k os n i z) (.exit 0) (Rj na xs w s k os n i z):=(Za.go Zy 400 [.b false] [4,5,7,8,9,33,34,35] (ac c1 a0))
theorem Zfg (b na:Bool) (xs as1:List Int) (m:Int) (c1:((as1.length:Int)==0)=true) (n1:Zd Yir 122 [.agg [.bool b, .sl xs.length (lm xs)]] (.tup [.bool na, .sl as1.length (lm as1)])):Zd Yir 124 [.agg [.bool b, .sl xs.length (lm xs)], .int .i64 m] (.agg [.bool false, .sl 0 []]):=Zd.of_bodyW (fn:=Zbo) (s:=(dds 4 (.box [.bool false, .sl 0 []]::(dds 62 [])))) (ex := .ret) rfl rfl (Za.seq (Za.go (t:=(.val (.agg [.bool b, .sl xs.length (lm xs)])::(vi m::(.box [.bool b, .sl xs.length (lm xs)]::(dds 1 (.box [.bool false, .sl 0 []]::(dds 62 []))))))) Zy 400 [] [0,1,2,4] a0) (Za.seq (Za.go (t:=(.val (.agg [.bool b, .sl xs.length (lm xs)])::(vi m::(.box [.bool b, .sl xs.length (lm xs)]::(dds 1 (.box [.bool false, .sl 0 []]::(.val (.bool na)::(vl as1::(dds 60 []))))))))) Zy 400 [.r (.tup [.bool na, .sl as1.length (lm as1)])] [0,1,2,4,5,6] (ac n1 a0)) (Za.seq_out (Za.go Zy 400 [.b true] [4] (ac c1 a0)) (by intro e;cases e)))) (by intro i e;cases e) rfl
theorem Zff (b na:Bool) (xs as1 os:List Int) (m w s n i v:Int) (k:Nat) (z:Rn) (c1:((as1.length:Int)==0)=false) (n1:Zd Yir 122 [.agg [.bool b, .sl xs.length (lm xs)]] (.tup [.bool na, .sl as1.length (lm as1)])) (n2:0≤(i64.wrap ((i64.wrap ((as1.length:Int)+(i64.wrap (Int.tdiv m 32))))+1))∧(i64.wrap ((i64.wrap ((as1.length:Int)+(i64.wrap (Int.tdiv m 32))))+1))≤1048576) (hl3:Za Yir (.loop Zgx) ((dds 4 (.box [.bool false, .sl 0 []]::(.val (.bool na)::(dds 1 (.val (.int .i64 (i64.wrap (Int.tdiv m 32)))::(.val (.int .u64 (u64.wrap (Int.tmod m 32)))::(.own 1 (Int.toNat (i64.wrap ((i64.wrap ((as1.length:Int)+(i64.wrap (Int.tdiv m 32))))+1))) (Qv [.int .u32 0] (Int.toNat (i64.wrap ((i64.wrap ((as1.length:Int)+(i64.wrap (Int.tdiv m 32))))+1))))::(dds 23 (.val (.sl as1.length (lm as1))::(.val (.int .i64 (as1.length:Int))::(.val (.int .i64 0)::(dds 31 []))))))))))))) (.exit 0) (Rj na as1 w s k os n i z)) (n4:Zd Yir 133 [.bool na, .sl k (lm os)] (Zp v)):Zd Yir 124 [.agg [.bool b, .sl xs.length (lm xs)], .int .i64 m] (Zp v):=Zd.of_bodyW (fn:=Zbo) (s:=(dds 4 (.box [.bool (decide (v<0)), .sl ((Zb (Int.natAbs v)).length) (lm (Zb (Int.natAbs v)))]::(dds 62 [])))) (ex := .ret) rfl rfl (Za.seq (Za.go (t:=(.val (.agg [.bool b, .sl xs.length (lm xs)])::(vi m::(.box [.bool b, .sl xs.length (lm xs)]::(dds 1 (.box [.bool false, .sl 0 []]::(dds 62 []))))))) Zy 400 [] [0,1,2,4] a0) (Za.seq (Za.go (t:=(.val (.agg [.bool b, .sl xs.length (lm xs)])::(vi m::(.box [.bool b, .sl xs.length (lm xs)]::(dds 1 (.box [.bool false, .sl 0 []]::(.val (.bool na)::(vl as1::(dds 60 []))))))))) Zy 400 [.r (.tup [.bool na, .sl as1.length (lm as1)])] [0,1,2,4,5,6] (ac n1 a0)) (Za.seq (Za.go (t:=(.val (.agg [.bool b, .sl xs.length (lm xs)])::(vi m::(.box [.bool b, .sl xs.length (lm xs)]::(dds 1 (.box [.bool false, .sl 0 []]::(.val (.bool na)::(vl as1::(dds 60 []))))))))) Zy 400 [.b false] [0,1,2,4,5,6] (ac c1 a0)) (Za.seq (Za.go (t:=(.val (.agg [.bool b, .sl xs.length (lm xs)])::(vi m::(.box [.bool b, .sl xs.length (lm xs)]::(dds 1 (.box [.bool false, .sl 0 []]::(.val (.bool na)::(vl as1::(vi (i64.wrap (Int.tdiv m 32))::(.val (.int .u64 (u64.wrap (Int.tmod m 32)))::(dds 58 []))))))))))) Zy 400 [] [0,1,2,4,5,6,7,8] (ac (show ¬ (32:Int)=0 from (by decide)) (ac (show ¬ (32:Int)=0 from (by decide)) a0))) (Za.seq (Za.go (t:=(.val (.agg [.bool b, .sl xs.length (lm xs)])::(vi m::(.box [.bool b, .sl xs.length (lm xs)]::(dds 1 (.box [.bool false, .sl 0 []]::(.val (.bool na)::(vl as1::(vi (i64.wrap (Int.tdiv m 32))::(.val (.int .u64 (u64.wrap (Int.tmod m 32)))::(.own 1 (Int.toNat (i64.wrap ((i64.wrap ((as1.length:Int)+(i64.wrap (Int.tdiv m 32))))+1))) (Qv [.int .u32 0] (Int.toNat (i64.wrap ((i64.wrap ((as1.length:Int)+(i64.wrap (Int.tdiv m 32))))+1))))::(dds 57 [])))))))))))) Zy 400 [] [0,1,2,4,5,6,7,8,9] (ac n2 a0)) (Za.seq (Za.seq (Za.go Zy 400 [] [4,5,7,8,9,33,34,35] a0) (Za.block hl3)) (Za.go Zy 400 [.r (Zp v)] [4] (ac n4 a0)))))))) (by intro i e;cases e) rfl
def Znr (ts:List Rn) (r:Rn) (e:Int) (w:Rn) (i:Int) (s:Int):Zk:=(.val (.sl ts.length (pc ts))::(dds 2 (.box [.bool r.1, .sl r.2.length (lm r.2), .int .i64 e]::(dds 1 (.box [.bool w.1, .sl w.2.length (lm w.2)]::(.val (.int .i64 i)::(.val (.int .i64 s)::(dds 24 []))))))))
theorem Yk78_1 (ts:List Rn) (r:Rn) (e:Int) (w:Rn) (i:Int) (s:Int) (t:Int) (c1:(decide (i≥0))=true) (n1:0≤i∧i<(ts.length:Int)) (n2:Zd Yir 113 [Z5 w,Z5 r] (Zp ((Zt w)*(Zt r)))) (n3:Zd Yir 124 [Z5 (ts.getD (Int.toNat i) z0), .int .i64 s] (Zp t)) (n4:Zd Yir 121 [Zp ((Zt w)*(Zt r)),Zp t] (Zp (((Zt w)*(Zt r))+t))):Za Yir Yc78 (Znr ts r e w i s) .norm (Znr ts r e (cn (((Zt w)*(Zt r))+t)) (i64.wrap (i-1)) (i64.wrap (s+e))):=(Za.go Zy 400 [.b true, .r (Zp ((Zt w)*(Zt r))), .v (Z5 (ts.getD (Int.toNat i) z0)), .r (Zp t), .r (Zp (((Zt w)*(Zt r))+t))] [0,3,5,6,7] (ac c1 (ac n2 (ac n1 (ac (J1 n1) (ac n3 (ac n4 a0)))))))
theorem Yk78_2 (ts:List Rn) (r:Rn) (e:Int) (w:Rn) (i:Int) (s:Int)  (c1:(decide (i≥0))=false):Za Yir Yc78 (Znr ts r e w i s) (.exit 0) (Znr ts r e w i s):=(Za.go Zy 400 [.b false] [0,3,5,6,7] (ac c1 a0))
theorem Yrun78 (ts:List Rn) (r w:Rn) (e i s sg:Int) (hl1:Za Yir (.loop Yc78) (Znr ts r e (false,[]) (i64.wrap ((ts.length:Int)-1)) 0) (.exit 0) (Znr ts r e w i s)) (n2:Zd Yir 73 [Z5 w] (.int .i64 sg)):Zd Yir 78 [.sl ts.length (pc ts), .agg [.bool r.1, .sl r.2.length (lm r.2), .int .i64 e]] (.int .i64 sg):=Zd.of_bodyW (fn:=Yi78) (s:=(dds 4 (.val (.int .i64 sg)::(dds 27 [])))) (ex := .ret) rfl rfl (Za.seq (Za.go (t:=(vp ts::(.val (.agg [.bool r.1, .sl r.2.length (lm r.2), .int .i64 e])::(dds 1 (.box [.bool r.1, .sl r.2.length (lm r.2), .int .i64 e]::(vi 0::(dds 27 []))))))) Zy 400 [] [0,1,3,4] a0) (Za.seq (Za.go (t:=(vp ts::(.val (.agg [.bool r.1, .sl r.2.length (lm r.2), .int .i64 e])::(dds 1 (.box [.bool r.1, .sl r.2.length (lm r.2), .int .i64 e]::(vi 0::(.box [.bool false, .sl 0 []]::(dds 26 [])))))))) Zy 400 [] [0,1,3,4,5] a0) (Za.seq (Za.seq (Za.go Zy 400 [] [0,3,5,6,7] a0) (Za.block hl1)) (Za.go Zy 400 [.r (.int .i64 sg)] [4] (ac n2 a0))))) (by intro i e;cases e) rfl
end Go.Proofs.Ythnnfemologhfaa

namespace Go.Proofs.Ythnnfemologhfaa
open Go.IntKind (i64 u64 u32)
open Go.Ai
set_option maxRecDepth 100000
theorem Zkr {na:Bool} {xs:List Int} {z:Rn} {w s:Nat} (hx:U32 xs) (hs:s<32) (hN:w+xs.length<1048576):∀ (r i:Nat) (os:List Int),i+r=xs.length→os.length=w+xs.length+1→U32 os→Zn os=4294967296^w*(2^s*Zn (xs.take i))→os.getD (i+w) 0<2^s→(∀ t,i+w<t→os.getD t 0=0) →
  ∃ os',Za Yir (.loop Zgx) (Rj na xs (w:Nat) (s:Nat) (w+xs.length+1) os (xs.length:Nat) (i:Nat) z) (.exit 0) (Rj na xs (w:Nat) (s:Nat) (w+xs.length+1) os' (xs.length:Nat) (xs.length:Nat) z)∧os'.length=w+xs.length+1∧U32 os'∧Zn os'=4294967296^w*(2^s*Zn xs):=by
 intro r
 induction r with
 | zero =>
  intro i os hi hl hu hv _ _
  have:i=xs.length:=by omega
  subst this
  exact⟨os,Za.loop_out (Zrf na xs _ _ _ os _ _ z (by simp)) (by intro e;cases e),hl,hu,by rw[hv,List.take_length]⟩
 | succ r ih =>
  intro i os hi hl hu hv hc hz
  have ei:i64.wrap ((i:Int)+1)=((i+1:Nat):Int):=by rw[w64 (by omega) (by omega)];omega
  have ew:i64.wrap ((i:Int)+(w:Int))=((i+w:Nat):Int):=by rw[w64 (by omega) (by omega)];omega
  have ew1:i64.wrap (((i+w:Nat):Int)+1)=((i+w+1:Nat):Int):=by rw[w64 (by omega) (by omega)];omega
  have hxi:=Zw hx i
  have hoi:=Zw hu (i+w)
  obtain⟨p0,p1,p2,q,q0,q1⟩:=N9 hxi hs
  have es:(2:Int)^(min (Int.toNat (s:Int)) (IntKind.bits .u64))=2^s:=by
   rw[Int.toNat_natCast]
   congr 1
   show min s 64=s
   omega
  have hk:=Zrg na xs (w:Nat) (s:Nat) (w+xs.length+1) os (xs.length:Nat) (i:Nat) z (by simp;omega) (by omega) (by omega) (by rw[ew];omega) hl (by rw[ew,ew1];omega) (by simpa using hl)
  rw[ei,ew,ew1,es,Int.toNat_natCast,Int.toNat_natCast,Int.toNat_natCast,W1 (n:=xs.getD i 0) (by omega),W1 ⟨p0,p1⟩,fd32,Gb (xs.getD i 0*2^s),q1] at hk
  have hqs:q*2^s<4294967296:=by rw[← q1];omega
  rw[or32 q0 hqs (by omega) ⟨hoi.1,hc⟩] at hk
  have hhi:0≤xs.getD i 0*2^s / 4294967296:=by omega
  have hp2:(2:Int)^s≤4294967296:=by have:=H4 (show s≤32 by omega);rwa [show (2:Int)^32=4294967296 by decide] at this
  rw[w32 ⟨hhi,by omega⟩] at hk
  have hsum:0≤q*2^s+os.getD (i+w) 0∧q*2^s+os.getD (i+w) 0<4294967296:=by
   have hq2:0≤q*2^s:=by rw[← q1];omega
   refine⟨by omega,?_⟩
   have e:=Zt9 (show s≤32 by omega)
   rw[e] at hqs ⊢
   have hp:=J2 s
   have:=Int.lt_of_mul_lt_mul_right hqs (by omega)
   have:=Int.mul_le_mul_of_nonneg_right (show q+1≤2^(32-s) by omega) (show (0:Int)≤2^s by omega)
   rw[Int.add_mul,Int.one_mul] at this
   omega
  obtain⟨os',g1,g2,g3,g4⟩:=ih (i+1) ((os.set (i+w) (q*2^s+os.getD (i+w) 0)).set (i+w+1) (xs.getD i 0*2^s / 4294967296)) (by omega) (by simpa using hl) (Q6 (Q6 hu hsum) ⟨hhi,by omega⟩) (by
    rw[J0 _ _ _ (by simp;omega),J0 _ _ _ (by omega),Qk (by omega),hz (i+w+1) (by omega),hv,Xb xs i (by omega),Int.pow_succ,Int.pow_add]
    have e3:xs.getD i 0*2^s=4294967296*(xs.getD i 0*2^s / 4294967296)+q*2^s:=by omega
    generalize (4294967296:Int)^i=P at *
    generalize (4294967296:Int)^w=V at *
    generalize xs.getD i 0*2^s / 4294967296=H at *
    generalize os.getD (i+w) 0=o at *
    generalize q*2^s=Q at *
    have e4:(2:Int)^s*(Zn (xs.take i)+P*xs.getD i 0)=2^s*Zn (xs.take i)+P*(xs.getD i 0*2^s):=by grind
    rw[e4,e3]
    grind) (by
    rw[show i+1+w=i+w+1 by omega,show ((os.set (i+w) (q*2^s+os.getD (i+w) 0)).set (i+w+1) (xs.getD i 0*2^s / 4294967296)).getD (i+w+1) 0=xs.getD i 0*2^s / 4294967296 by simp[List.getD_eq_getElem?_getD,show i+w+1<os.length by omega]]
    exact p2) (fun t ht=>by rw[Qk (by omega),Qk (by omega)];exact hz t (by omega))
  exact⟨os',Za.loop hk g1,g2,g3,g4⟩
theorem R2 {neg:Bool} {xs:List Int} (hu:U32 xs) (n:Nat) (hn:n≤9223372036854775807) (hN:n / 32+xs.length+1≤1048576):Zd Yir 124 [.agg [.bool neg, .sl xs.length (lm xs)], .int .i64 (n:Nat)] (Zp (rv neg xs*2^n)):=by
 have l1:=U7 (neg:=neg) hu
 have r1:=Jd (neg:=neg) hu (by omega)
 generalize rv neg xs=a at *
 by_cases h0:(Zb a.natAbs).length=0
 ·have h:=Zfg neg _ xs (Zb a.natAbs) (n:Nat) (by rw[h0];rfl) r1
  have ha:a=0:=by have:=(Jx a.natAbs).1 h0;omega
  rw[ha,Int.zero_mul]
  exact h
 ·have e1:i64.wrap (Int.tdiv (n:Int) 32)=((n / 32:Nat):Int):=by
   rw[Int.tdiv_eq_ediv_of_nonneg (by omega),w64 (by omega) (by omega)];omega
  have e2:u64.wrap (Int.tmod (n:Int) 32)=((n % 32:Nat):Int):=by
   rw[Int.tmod_eq_emod_of_nonneg (by omega),W1 (by omega)];omega
  have e3:i64.wrap ((((Zb a.natAbs).length:Nat):Int)+((n / 32:Nat):Int))=((n / 32+(Zb a.natAbs).length:Nat):Int):=by rw[w64 (by omega) (by omega)];omega
  have e4:i64.wrap (((n / 32+(Zb a.natAbs).length:Nat):Int)+1)=((n / 32+(Zb a.natAbs).length+1:Nat):Int):=by rw[w64 (by omega) (by omega)];omega
  have hs:n % 32<32:=Nat.mod_lt _ (by decide)
  obtain⟨os,g1,g2,g3,g4⟩:=Zkr (na:=decide (a<0)) (xs:=Zb a.natAbs) (z:=z0) (w:=n / 32) (Jr a.natAbs) hs (by omega) (Zb a.natAbs).length 0 (List.replicate (n / 32+(Zb a.natAbs).length+1) 0) (by omega) (by simp) (Xy _) (by rw[Xt];simp[Zn]) (by rw[J7];exact J2 _) (fun t _=>J7 _ _)
  have hm:=Xv (neg:=decide (a<0)) g3 (by omega)
  have hv:rv (decide (a<0)) os=a*2^n:=by
   rw[Sj (xs:=Zb a.natAbs) (t:=2^n) (by rw[g4,A6 n];grind),Ho]
  rw[hv,g2] at hm
  exact Zff neg _ xs (Zb a.natAbs) os (n:Nat) _ _ _ _ _ _ _ (by rw[beq_eq_false_iff_ne];omega) r1 (by rw[e1,e3,e4];omega) (by rw[e1,e2,e3,e4,Int.toNat_natCast,Ue];exact g1) hm
theorem Zpu {K X:Nat} {ts:List Rn} {r:Rn} (ht:∀ t∈ts,J4 K t) (hr:J4 X r) (e:Nat) (hS:K+2+(ts.length+1)*(X+(e / 32+1)+1)≤1048576) (he:e≤1073741824) :
  ∀ n (w:Rn),n≤ts.length→Zt w=hv ((Zl ts).drop n) (Zt r) (2^e)→J4 (K+1+(ts.length-n)*(X+(e / 32+1)+1)) w → 
  ∃ w' s',Zt w'=hv (Zl ts) (Zt r) (2^e)∧J4 (K+1+ts.length*(X+(e / 32+1)+1)) w'∧Za Yir (.loop Yc78) (Znr ts r (e:Nat) w ((n:Int)-1) ((e*(ts.length-n):Nat):Int)) (.exit 0) (Znr ts r (e:Nat) w' (-1) s'):=by
 have hle:ts.length≤1048576:=by
  have:ts.length*1≤(ts.length+1)*(X+(e / 32+1)+1):=Nat.mul_le_mul (by omega) (by omega)
  omega
 intro n
 induction n with
 | zero =>
  intro w _ hw gw
  exact⟨w,_,by simpa using hw,gw,Za.loop_out (Yk78_2 ts r (e:Nat) w (((0:Nat):Int)-1) _ (by simp)) (by intro e;cases e)⟩
 | succ n ih =>
  intro w hn hw gw
  obtain⟨t1,t2⟩:=Qb ht n
  have e0:((n+1:Nat):Int)-1=(n:Int):=by omega
  have hK1:(ts.length-(n+1))*(X+(e / 32+1)+1)+(X+(e / 32+1)+1)=(ts.length-n)*(X+(e / 32+1)+1):=by
   rw[show ts.length-n=ts.length-(n+1)+1 by omega,Nat.add_mul,Nat.one_mul]
  have hK2:(ts.length-n)*(X+(e / 32+1)+1)≤(ts.length+1)*(X+(e / 32+1)+1):=Nat.mul_le_mul_right _ (by omega)
  have hsh:e*(ts.length-(n+1)) / 32≤(ts.length-(n+1))*(X+(e / 32+1)+1):=by
   have h3:e≤32*(e / 32+1):=by omega
   have h4:e*(ts.length-(n+1))≤32*((ts.length-(n+1))*(e / 32+1)):=by
    calc e*(ts.length-(n+1))≤(32*(e / 32+1))*(ts.length-(n+1)):=Nat.mul_le_mul_right _ h3
     _=32*((ts.length-(n+1))*(e / 32+1)):=by rw[Nat.mul_assoc,Nat.mul_comm (e / 32+1)]
   have h5:(ts.length-(n+1))*(e / 32+1)≤(ts.length-(n+1))*(X+(e / 32+1)+1):=Nat.mul_le_mul_left _ (by omega)
   omega
  have hb1:e*(ts.length-(n+1))≤1073741824*1048576:=Nat.mul_le_mul he (by omega)
  have hb2:e*(ts.length-n)≤1073741824*1048576:=Nat.mul_le_mul he (by omega)
  have w1:i64.wrap (((e*(ts.length-(n+1)):Nat):Int)+(e:Int))=((e*(ts.length-n):Nat):Int):=by
   have:e*(ts.length-n)=e*(ts.length-(n+1))+e:=by rw[show ts.length-n=ts.length-(n+1)+1 by omega,Nat.mul_succ]
   rw[w64 (by omega) (by omega)];omega
  have w2:i64.wrap ((n:Int)-1)=(n:Int)-1:=w64 (by omega) (by omega)
  have hst:hv ((Zl ts).drop n) (Zt r) (2^e)=Zt w*Zt r+Zt (ts.getD n z0)*2^(e*(ts.length-(n+1))):=by
   have h1:(Zl ts).drop n=(Zl ts).getD n 0::(Zl ts).drop (n+1):=by
    rw[List.drop_eq_getElem_cons (by rw[Z3];omega)]
    congr 1
    rw[List.getD_eq_getElem?_getD,List.getElem?_eq_getElem (by rw[Z3];omega)];rfl
   rw[h1,hv,Q8,List.length_drop,Z3,← hw,← Int.pow_mul]
   generalize Zt (ts.getD n z0)*2^(e*(ts.length-(n+1)))=A
   grind
  have fw:=gw.fits
  have fp:=(fw.mul hr.fits)
  have ft:Jh (K+(e*(ts.length-(n+1)) / 32+1)) (Zt (ts.getD n z0)*2^(e*(ts.length-(n+1)))):=(Qb ht n).fits.mul (Zdv _)
  have hgood:J4 (K+1+(ts.length-n)*(X+(e / 32+1)+1)) (cn (Zt w*Zt r+Zt (ts.getD n z0)*2^(e*(ts.length-(n+1))))):=by
   refine (Jq ((fp.mono (k:=K+1+(ts.length-(n+1))*(X+(e / 32+1)+1)+X+(e / 32+1)) (by omega)).add (ft.mono (by omega)))).mono (by omega)
  obtain⟨w',s',q1,q2,q3⟩:=ih (cn (Zt w*Zt r+Zt (ts.getD n z0)*2^(e*(ts.length-(n+1))))) (by omega) (by rw[Qe,hst]) hgood
  refine⟨w',s',q1,q2,?_⟩
  rw[e0]
  have l1:=fp.len
  have l2:=ft.len
  obtain⟨gw1,gw2⟩:=gw
  have k:=Yk78_1 ts r (e:Nat) w (n:Nat) ((e*(ts.length-(n+1)):Nat):Int) (Zt (ts.getD n z0)*2^(e*(ts.length-(n+1)))) (by simp) (by omega)
   (E0 gw1 hr.1 (by have:=hr.2;omega))
   (by rw[Int.toNat_natCast];exact R2 t1 _ (by omega) (by omega))
   (by
    have:=Zhm (na:=decide (Zt w*Zt r<0)) (nb:=decide (Zt (ts.getD n z0)*2^(e*(ts.length-(n+1)))<0)) (Jr (Zt w*Zt r).natAbs) (Jr (Zt (ts.getD n z0)*2^(e*(ts.length-(n+1)))).natAbs) (by omega) (by omega)
    rw[Ho,Ho] at this
    exact this)
  rw[w1,w2] at k
  exact Za.loop k q3
theorem Re {K X:Nat} {rs:List Rn} {r:Rn} (ht:∀ t∈rs,J4 K t) (hr:J4 X r) (e:Nat) (hS:K+2+(rs.length+1)*(X+(e / 32+1)+1)≤1048576) (he:e≤1073741824) :
  Zd Yir 78 [.sl rs.length (pc rs), .agg [.bool r.1, .sl r.2.length (lm r.2), .int .i64 (e:Nat)]] (.int .i64 (Vp (hv (Zl rs) (Zt r) (2^e)))):=by
 have hle:rs.length≤1048576:=by
  have:rs.length*1≤(rs.length+1)*(X+(e / 32+1)+1):=Nat.mul_le_mul (by omega) (by omega)
  omega
 obtain⟨w',s',q1,q2,q3⟩:=Zpu ht hr e hS he rs.length z0 (Nat.le_refl _) (by rw[← Z3,List.drop_length];rfl) (Px _)
 rw[Nat.sub_self,Nat.mul_zero] at q3
 have hK2:rs.length*(X+(e / 32+1)+1)≤(rs.length+1)*(X+(e / 32+1)+1):=Nat.mul_le_mul_right _ (by omega)
 have hs:=Gc (neg:=w'.1) q2.1 (by have:=q2.2;omega)
 rw[show rv w'.1 w'.2=Zt w' from rfl,q1] at hs
 have e1:i64.wrap ((rs.length:Int)-1)=(rs.length:Int)-1:=w64 (by omega) (by omega)
 exact Yrun78 rs r w' (e:Nat) (-1) s' _ (by rw[e1];exact q3) hs
end Go.Proofs.Ythnnfemologhfaa

namespace Go.Proofs.Ythnnfemologhfaa
open Go.IntKind (i64 u64 u32)
open Go.Ai
set_option maxRecDepth 100000
def Zhe (as1:List Rn) (k:Nat) (cs:List AV) (bs:List Rn):Zk:=(dds 3 (.val (.sl as1.length (pc as1))::(.own 1 k cs::(.val (.sl bs.length (pc bs))::(dds 23 [])))))
theorem Yk96_1 (as1:List Rn) (k:Nat) (cs:List AV) (bs:List Rn) (us vs:List Rn) (c1:(decide ((bs.length:Int)>0))=true) (n1:k+1≤1048576) (n2:Zd Yir 64 [.sl as1.length (pc as1), .sl bs.length (pc bs)] (.fresh 2 us.length (pc us))) (n3:Zd Yir 127 [.sl us.length (pc us)] (.fresh 2 vs.length (pc vs))):Za Yir Zul (Zhe as1 k cs bs) .norm (Zhe bs (k+1) (cs++([.sl bs.length (pc bs)]:List AV)) vs):=(Za.go Zg 400 [.b true, .r (.fresh 2 us.length (pc us)), .r (.fresh 2 vs.length (pc vs))] [3,4,5] (ac c1 (ac (show List.length ([.sl bs.length (pc bs)]:List AV)=1*1 from rfl) (ac n1 (ac n2 (ac n3 a0))))))
theorem Znw (as1:List Rn) (k:Nat) (cs:List AV) (bs:List Rn)  (c1:(decide ((bs.length:Int)>0))=false):Za Yir Zul (Zhe as1 k cs bs) (.exit 0) (Zhe as1 k cs bs):=(Za.go Zg 400 [.b false] [3,4,5] (ac c1 a0))
theorem Za7 (rs fs:List Rn) (c1:((fs.length:Int)==0)=true) (n1:Zd Yir 66 [.sl rs.length (pc rs)] (.fresh 2 fs.length (pc fs))):Zd Yir 96 [.sl rs.length (pc rs)] (.fresh 1 0 []):=Zd.of_bodyW (fn:=Zn0) (s:=(dds 2 (.own 1 0 []::(dds 26 [])))) (ex := .ret) rfl rfl (Za.seq (Za.go (t:=(vp rs::(dds 1 (.own 1 0 []::(dds 26 []))))) Zg 400 [] [0,2] a0) (Za.seq (Za.go (t:=(vp rs::(dds 1 (.own 1 0 []::(vp fs::(dds 25 [])))))) Zg 400 [.r (.fresh 2 fs.length (pc fs))] [0,2,3] (ac n1 a0)) (Za.seq_out (Za.go Zg 400 [.b true] [2] (ac c1 a0)) (by intro e;cases e)))) (by intro i e;cases e) rfl
theorem Za6 (rs fs ds ps as1 bs:List Rn) (ls:List (List Rn)) (c1:((fs.length:Int)==0)=false) (n1:Zd Yir 66 [.sl rs.length (pc rs)] (.fresh 2 fs.length (pc fs))) (n2:Zd Yir 75 [.sl fs.length (pc fs)] (.fresh 2 ds.length (pc ds))) (n3:Zd Yir 86 [.sl ds.length (pc ds)] (.fresh 2 ps.length (pc ps))) (hl4:Za Yir (.loop Zul) (Zhe fs 1 ([.sl fs.length (pc fs)]:List AV) ps) (.exit 0) (Zhe as1 ls.length (pp ls) bs)):Zd Yir 96 [.sl rs.length (pc rs)] (.fresh 1 ls.length (pp ls)):=Zd.of_bodyW (fn:=Zn0) (s:=(dds 2 (.own 1 ls.length (pp ls)::(dds 26 [])))) (ex := .ret) rfl rfl (Za.seq (Za.go (t:=(vp rs::(dds 1 (.own 1 0 []::(dds 26 []))))) Zg 400 [] [0,2] a0) (Za.seq (Za.go (t:=(vp rs::(dds 1 (.own 1 0 []::(vp fs::(dds 25 [])))))) Zg 400 [.r (.fresh 2 fs.length (pc fs))] [0,2,3] (ac n1 a0)) (Za.seq (Za.go (t:=(vp rs::(dds 1 (.own 1 0 []::(vp fs::(dds 25 [])))))) Zg 400 [.b false] [0,2,3] (ac c1 a0)) (Za.seq (Za.go (t:=(vp rs::(dds 1 (.own 1 0 []::(vp fs::(.own 1 1 [.sl fs.length (pc fs)]::(dds 24 []))))))) Zg 400 [] [0,2,3,4] a0) (Za.seq (Za.go Zg 400 [.r (.fresh 2 ds.length (pc ds)), .r (.fresh 2 ps.length (pc ps))] [3,4,5] (ac n2 (ac n3 a0))) (Za.seq (Za.block hl4) (Za.go Zg 400 [] [2] a0))))))) (by intro i e;cases e) rfl
theorem Za5 (rs fs:List Rn) (c1:((fs.length:Int)==0)=true) (n1:Zd Yir 66 [.sl rs.length (pc rs)] (.sl fs.length (pc fs))):Zd Yir 96 [.sl rs.length (pc rs)] (.fresh 1 0 []):=Zd.of_bodyW (fn:=Zn0) (s:=(dds 2 (.own 1 0 []::(dds 26 [])))) (ex := .ret) rfl rfl (Za.seq (Za.go (t:=(vp rs::(dds 1 (.own 1 0 []::(dds 26 []))))) Zg 400 [] [0,2] a0) (Za.seq (Za.go (t:=(vp rs::(dds 1 (.own 1 0 []::(vp fs::(dds 25 [])))))) Zg 400 [.r (.sl fs.length (pc fs))] [0,2,3] (ac n1 a0)) (Za.seq_out (Za.go Zg 400 [.b true] [2] (ac c1 a0)) (by intro e;cases e)))) (by intro i e;cases e) rfl
theorem Za4 (rs fs ds ps as1 bs:List Rn) (ls:List (List Rn)) (c1:((fs.length:Int)==0)=false) (n1:Zd Yir 66 [.sl rs.length (pc rs)] (.sl fs.length (pc fs))) (n2:Zd Yir 75 [.sl fs.length (pc fs)] (.fresh 2 ds.length (pc ds))) (n3:Zd Yir 86 [.sl ds.length (pc ds)] (.fresh 2 ps.length (pc ps))) (hl4:Za Yir (.loop Zul) (Zhe fs 1 ([.sl fs.length (pc fs)]:List AV) ps) (.exit 0) (Zhe as1 ls.length (pp ls) bs)):Zd Yir 96 [.sl rs.length (pc rs)] (.fresh 1 ls.length (pp ls)):=Zd.of_bodyW (fn:=Zn0) (s:=(dds 2 (.own 1 ls.length (pp ls)::(dds 26 [])))) (ex := .ret) rfl rfl (Za.seq (Za.go (t:=(vp rs::(dds 1 (.own 1 0 []::(dds 26 []))))) Zg 400 [] [0,2] a0) (Za.seq (Za.go (t:=(vp rs::(dds 1 (.own 1 0 []::(vp fs::(dds 25 [])))))) Zg 400 [.r (.sl fs.length (pc fs))] [0,2,3] (ac n1 a0)) (Za.seq (Za.go (t:=(vp rs::(dds 1 (.own 1 0 []::(vp fs::(dds 25 [])))))) Zg 400 [.b false] [0,2,3] (ac c1 a0)) (Za.seq (Za.go (t:=(vp rs::(dds 1 (.own 1 0 []::(vp fs::(.own 1 1 [.sl fs.length (pc fs)]::(dds 24 []))))))) Zg 400 [] [0,2,3,4] a0) (Za.seq (Za.go Zg 400 [.r (.fresh 2 ds.length (pc ds)), .r (.fresh 2 ps.length (pc ps))] [3,4,5] (ac n2 (ac n3 a0))) (Za.seq (Za.block hl4) (Za.go Zg 400 [] [2] a0))))))) (by intro i e;cases e) rfl
def G4 (ls:List (List Rn)) (r:Rn) (e:Int) (n:Int) (last:Int) (m:Int) (i:Int):Zk:=(dds 3 (.box [.bool r.1, .sl r.2.length (lm r.2), .int .i64 e]::(dds 1 (.val (.int .i64 n)::(.val (.int .i64 last)::(dds 3 (.val (.sl ls.length (pp ls))::(.val (.int .i64 m)::(.val (.int .i64 i)::(dds 24 []))))))))))
theorem Zrw (ls:List (List Rn)) (r:Rn) (e:Int) (n:Int) (last:Int) (m:Int) (i:Int) (s:Int) (c1:(decide (i<m))=true) (c2:(s != 0)=true) (c3:(last != 0)=true) (c4:(s != last)=true) (n1:0≤i∧i<(ls.length:Int)) (n2:Zd Yir 78 [.sl ((ls.getD (Int.toNat i) []).length) (pc (ls.getD (Int.toNat i) [])), .agg [.bool r.1, .sl r.2.length (lm r.2), .int .i64 e]] (.int .i64 s)):Za Yir L1 (G4 ls r e n last m i) .norm (G4 ls r e (i64.wrap (n+1)) s m (i64.wrap (i+1))):=(Za.go Zg 400 [.b true, .v (.sl ((ls.getD (Int.toNat i) []).length) (pc (ls.getD (Int.toNat i) []))), .r (.int .i64 s), .b true, .b true, .b true, .b true] [3,5,6,10,11,12] (ac c1 (ac n1 (ac (Wf n1) (ac n2 (ac c2 (ac c3 (ac c4 (ac c2 a0)))))))))
theorem Zrv (ls:List (List Rn)) (r:Rn) (e:Int) (n:Int) (last:Int) (m:Int) (i:Int) (s:Int) (c1:(decide (i<m))=true) (c2:(s != 0)=true) (c3:(last != 0)=true) (c4:(s != last)=false) (n1:0≤i∧i<(ls.length:Int)) (n2:Zd Yir 78 [.sl ((ls.getD (Int.toNat i) []).length) (pc (ls.getD (Int.toNat i) [])), .agg [.bool r.1, .sl r.2.length (lm r.2), .int .i64 e]] (.int .i64 s)):Za Yir L1 (G4 ls r e n last m i) .norm (G4 ls r e n s m (i64.wrap (i+1))):=(Za.go Zg 400 [.b true, .v (.sl ((ls.getD (Int.toNat i) []).length) (pc (ls.getD (Int.toNat i) []))), .r (.int .i64 s), .b true, .b true, .b false, .b true] [3,5,6,10,11,12] (ac c1 (ac n1 (ac (Wf n1) (ac n2 (ac c2 (ac c3 (ac c4 (ac c2 a0)))))))))
theorem Zru (ls:List (List Rn)) (r:Rn) (e:Int) (n:Int) (last:Int) (m:Int) (i:Int) (s:Int) (c1:(decide (i<m))=true) (c2:(s != 0)=true) (c3:(last != 0)=false) (n1:0≤i∧i<(ls.length:Int)) (n2:Zd Yir 78 [.sl ((ls.getD (Int.toNat i) []).length) (pc (ls.getD (Int.toNat i) [])), .agg [.bool r.1, .sl r.2.length (lm r.2), .int .i64 e]] (.int .i64 s)):Za Yir L1 (G4 ls r e n last m i) .norm (G4 ls r e n s m (i64.wrap (i+1))):=(Za.go Zg 400 [.b true, .v (.sl ((ls.getD (Int.toNat i) []).length) (pc (ls.getD (Int.toNat i) []))), .r (.int .i64 s), .b true, .b false, .b false, .b true] [3,5,6,10,11,12] (ac c1 (ac n1 (ac (Wf n1) (ac n2 (ac c2 (ac c3 (ac (show false=false from rfl) (ac c2 a0)))))))))
theorem Zrt (ls:List (List Rn)) (r:Rn) (e:Int) (n:Int) (last:Int) (m:Int) (i:Int) (s:Int) (c1:(decide (i<m))=true) (c2:(s != 0)=false) (n1:0≤i∧i<(ls.length:Int)) (n2:Zd Yir 78 [.sl ((ls.getD (Int.toNat i) []).length) (pc (ls.getD (Int.toNat i) [])), .agg [.bool r.1, .sl r.2.length (lm r.2), .int .i64 e]] (.int .i64 s)):Za Yir L1 (G4 ls r e n last m i) .norm (G4 ls r e n last m (i64.wrap (i+1))):=(Za.go Zg 400 [.b true, .v (.sl ((ls.getD (Int.toNat i) []).length) (pc (ls.getD (Int.toNat i) []))), .r (.int .i64 s), .b false, .b false, .b false, .b false] [3,5,6,10,11,12] (ac c1 (ac n1 (ac (Wf n1) (ac n2 (ac c2 (ac (show false=false from rfl) (ac (show false=false from rfl) (ac c2 a0)))))))))
theorem Zrs (ls:List (List Rn)) (r:Rn) (e:Int) (n:Int) (last:Int) (m:Int) (i:Int)  (c1:(decide (i<m))=false):Za Yir L1 (G4 ls r e n last m i) (.exit 0) (G4 ls r e n last m i):=(Za.go Zg 400 [.b false] [3,5,6,10,11,12] (ac c1 a0))
theorem Zpq (ls:List (List Rn)) (r:Rn) (e n last i:Int) (hl1:Za Yir (.loop L1) (G4 ls r e 0 0 (ls.length:Int) 0) (.exit 0) (G4 ls r e n last (ls.length:Int) i)):Zd Yir 100 [.sl ls.length (pp ls), .agg [.bool r.1, .sl r.2.length (lm r.2), .int .i64 e]] (.int .i64 n):=Zd.of_bodyW (fn:=Zgn) (s:=(dds 4 (.val (.int .i64 n)::(dds 32 [])))) (ex := .ret) rfl rfl (Za.seq (Za.go (t:=(.val (.sl ls.length (pp ls))::(.val (.agg [.bool r.1, .sl r.2.length (lm r.2), .int .i64 e])::(dds 1 (.box [.bool r.1, .sl r.2.length (lm r.2), .int .i64 e]::(vi 0::(dds 32 []))))))) Zg 400 [] [0,1,3,4] a0) (Za.seq (Za.go (t:=(.val (.sl ls.length (pp ls))::(.val (.agg [.bool r.1, .sl r.2.length (lm r.2), .int .i64 e])::(dds 1 (.box [.bool r.1, .sl r.2.length (lm r.2), .int .i64 e]::(vi 0::(vi 0::(vi 0::(dds 30 []))))))))) Zg 400 [] [0,1,3,4,5,6] a0) (Za.seq (Za.seq (Za.go Zg 400 [] [3,5,6,10,11,12] a0) (Za.block hl1)) (Za.go Zg 400 [] [4] a0)))) (by intro i e;cases e) rfl
theorem Znu (ls:List (List Rn)) (r:Rn) (e c:Int) (n1:Zd Yir 100 [.sl ls.length (pp ls), .agg [.bool r.1, .sl r.2.length (lm r.2), .int .i64 e]] (.int .i64 c)):Zd Yir 99 [.agg [.bool r.1, .sl r.2.length (lm r.2), .int .i64 e], .pt [.sl ls.length (pp ls)]] (.int .i64 c):=Zd.go (fn:=Yi99) Zg rfl 400 rfl [.v (.sl ls.length (pp ls)), .r (.int .i64 c)] (ac (show Zx [.sl ls.length (pp ls)] 0 1 true=some (.sl ls.length (pp ls)) from rfl) (ac n1 a0))
theorem Zj5 (rs ms:List Rn) (ls:List (List Rn)) (r t:Rn) (e f e0 c x y:Int) (v1 v2:Bool) (c1:(e0 != 0)=false) (c2:((ls.length:Int)==0)=false) (c3:(v1)=true) (c4:(v2)=true) (c5:(decide (c>0))=false) (n1:Zd Yir 34 [.sl rs.length (pc rs)] (.tup [.sl ms.length (pc ms), .int .i64 e0])) (n2:Zd Yir 96 [.sl rs.length (pc rs)] (.fresh 1 ls.length (pp ls))) (n3:Zd Yir 97 [.agg [.bool r.1, .sl r.2.length (lm r.2), .int .i64 e]] (.bool v1)) (n4:Zd Yir 97 [.agg [.bool t.1, .sl t.2.length (lm t.2), .int .i64 f]] (.bool v2)) (n5:Zd Yir 98 [.agg [.bool r.1, .sl r.2.length (lm r.2), .int .i64 e], .agg [.bool t.1, .sl t.2.length (lm t.2), .int .i64 f]] (.int .i64 c)) (n6:Zd Yir 99 [.agg [.bool r.1, .sl r.2.length (lm r.2), .int .i64 e], .pt [.sl ls.length (pp ls)]] (.int .i64 x)) (n7:Zd Yir 99 [.agg [.bool t.1, .sl t.2.length (lm t.2), .int .i64 f], .pt [.sl ls.length (pp ls)]] (.int .i64 y)):Zd Yir 50 [.sl rs.length (pc rs), .agg [.bool r.1, .sl r.2.length (lm r.2), .int .i64 e], .agg [.bool t.1, .sl t.2.length (lm t.2), .int .i64 f]] (.tup [.int .i64 (i64.wrap (x-y)), .int .i64 0]):=Zd.go (fn:=Yi50) Zg rfl 400 rfl [.r (.tup [.sl ms.length (pc ms), .int .i64 e0]), .b false, .r (.fresh 1 ls.length (pp ls)), .b false, .r (.bool v1), .b false, .r (.bool v2), .b false, .r (.int .i64 c), .b false, .r (.int .i64 x), .r (.int .i64 y)] (ac n1 (ac c1 (ac n2 (ac c2 (ac n3 (ac (show (!v1)=false from (by rw [c3];rfl)) (ac n4 (ac (show (!v2)=false from (by rw [c4];rfl)) (ac n5 (ac c5 (ac n6 (ac n7 a0))))))))))))
end Go.Proofs.Ythnnfemologhfaa

namespace Go.Proofs.Ythnnfemologhfaa
open Go.IntKind (i64 u64 u32)
open Go.Ai
set_option maxRecDepth 100000
def Lk (rs:List Rn) (ss:List Rn) (k:Nat) (os:List Rn) (i:Int) (j:Int):Zk:=(.val (.sl rs.length (pc rs))::(.val (.sl ss.length (pc ss))::(dds 2 (.own 2 0 []::(.own 2 k (pc os)::(.val (.int .i64 i)::(.val (.int .i64 j)::(dds 50 []))))))))
theorem Zp4 (rs:List Rn) (ss:List Rn) (k:Nat) (os:List Rn) (i:Int) (j:Int)  (c1:(decide (j<(ss.length:Int)))=true) (n1:0≤(i64.wrap (i+j))∧(i64.wrap (i+j))<(k:Int)) (n2:os.length=k) (n3:0≤i∧i<(rs.length:Int)) (n4:0≤j∧j<(ss.length:Int)) (n5:Zd Yir 105 [Z5 (rs.getD (Int.toNat i) z0),Z5 (ss.getD (Int.toNat j) z0)] (Zp ((Zt (rs.getD (Int.toNat i) z0))*(Zt (ss.getD (Int.toNat j) z0))))) (n6:Zd Yir 104 [Z5 (os.getD (Int.toNat (i64.wrap (i+j))) z0),Zp ((Zt (rs.getD (Int.toNat i) z0))*(Zt (ss.getD (Int.toNat j) z0)))] (Zp ((Zt (os.getD (Int.toNat (i64.wrap (i+j))) z0))+((Zt (rs.getD (Int.toNat i) z0))*(Zt (ss.getD (Int.toNat j) z0)))))):Za Yir Zgo (Lk rs ss k os i j) .norm (Lk rs ss k (os.set (Int.toNat (i64.wrap (i+j))) (cn ((Zt (os.getD (Int.toNat (i64.wrap (i+j))) z0))+((Zt (rs.getD (Int.toNat i) z0))*(Zt (ss.getD (Int.toNat j) z0)))))) i (i64.wrap (j+1))):=(Za.go Zg 400 [.b true, .v (Z5 (os.getD (Int.toNat (i64.wrap (i+j))) z0)), .v (Z5 (rs.getD (Int.toNat i) z0)), .v (Z5 (ss.getD (Int.toNat j) z0)), .r (Zp ((Zt (rs.getD (Int.toNat i) z0))*(Zt (ss.getD (Int.toNat j) z0)))), .r (Zp ((Zt (os.getD (Int.toNat (i64.wrap (i+j))) z0))+((Zt (rs.getD (Int.toNat i) z0))*(Zt (ss.getD (Int.toNat j) z0))))), .l (pc (os.set (Int.toNat (i64.wrap (i+j))) (cn ((Zt (os.getD (Int.toNat (i64.wrap (i+j))) z0))+((Zt (rs.getD (Int.toNat i) z0))*(Zt (ss.getD (Int.toNat j) z0)))))))] [0,1,4,5,6,7] (ac c1 (ac n1 (ac (Vh n2 n1) (ac n3 (ac (J1 n3) (ac n4 (ac (J1 n4) (ac n5 (ac n6 (ac n1 (ac (Wl (r:=cn ((Zt (os.getD (Int.toNat (i64.wrap (i+j))) z0))+((Zt (rs.getD (Int.toNat i) z0))*(Zt (ss.getD (Int.toNat j) z0))))) n2 n1) a0))))))))))))
theorem Zp3 (rs:List Rn) (ss:List Rn) (k:Nat) (os:List Rn) (i:Int) (j:Int)  (c1:(decide (j<(ss.length:Int)))=false):Za Yir Zgo (Lk rs ss k os i j) (.exit 2) (Lk rs ss k os i j):=(Za.go Zg 400 [.b false] [0,1,4,5,6,7] (ac c1 a0))
def Zo5 (rs:List Rn) (ss:List Rn) (k:Nat) (os:List Rn) (i:Int):Zk:=(.val (.sl rs.length (pc rs))::(.val (.sl ss.length (pc ss))::(dds 2 (.own 2 0 []::(.own 2 k (pc os)::(.val (.int .i64 i)::(dds 51 [])))))))
theorem Yk53_1 (rs:List Rn) (ss:List Rn) (k:Nat) (os:List Rn) (i:Int) (os1:List Rn) (c1:(decide (i<(rs.length:Int)))=true) (hl1:Za Yir (.loop Zgo) (Lk rs ss k os i 0) (.exit 2) (Lk rs ss k os1 i (ss.length:Int))):Za Yir Yc53 (Zo5 rs ss k os i) .norm (Zo5 rs ss k os1 (i64.wrap (i+1))):=(Za.seq (Za.go (t:=(vp rs::(vp ss::(dds 2 (.own 2 0 []::(.own 2 k (pc os)::(vi i::(dds 51 [])))))))) Zg 400 [.b true] [0,1,4,5,6] (ac c1 a0)) (Za.seq (Za.block_norm (Za.seq (Za.go Zg 400 [] [0,1,4,5,6,7] a0) (Za.block hl1))) (Za.go Zg 400 [] [0,1,4,5,6] a0)))
theorem Yk53_2 (rs:List Rn) (ss:List Rn) (k:Nat) (os:List Rn) (i:Int)  (c1:(decide (i<(rs.length:Int)))=false):Za Yir Yc53 (Zo5 rs ss k os i) (.exit 0) (Zo5 rs ss k os i):=(Za.seq_out (Za.go Zg 400 [.b false] [0,1,4,5,6] (ac c1 a0)) (by intro e;cases e))
theorem Zj4 (rs ss:List Rn) (c1:((rs.length:Int)==0)=true):Zd Yir 53 [.sl rs.length (pc rs), .sl ss.length (pc ss)] (.fresh 2 0 []):=Zd.of_bodyW (fn:=Zty) (s:=(dds 4 (.own 2 0 []::(dds 53 [])))) (ex := .ret) rfl rfl (Za.seq (Za.go (t:=(vp rs::(vp ss::(dds 2 (.own 2 0 []::(dds 53 [])))))) Zg 400 [] [0,1,4] a0) (Za.seq_out (Za.go Zg 400 [.b true, .b true] [4] (ac c1 (ac (show true=true from rfl) a0))) (by intro e;cases e))) (by intro i e;cases e) rfl
theorem Zj3 (rs ss:List Rn) (c1:((rs.length:Int)==0)=false) (c2:((ss.length:Int)==0)=true):Zd Yir 53 [.sl rs.length (pc rs), .sl ss.length (pc ss)] (.fresh 2 0 []):=Zd.of_bodyW (fn:=Zty) (s:=(dds 4 (.own 2 0 []::(dds 53 [])))) (ex := .ret) rfl rfl (Za.seq (Za.go (t:=(vp rs::(vp ss::(dds 2 (.own 2 0 []::(dds 53 [])))))) Zg 400 [] [0,1,4] a0) (Za.seq_out (Za.go Zg 400 [.b false, .b true] [4] (ac c1 (ac c2 a0))) (by intro e;cases e))) (by intro i e;cases e) rfl
theorem Zj2 (rs ss os ts:List Rn) (i:Int) (k:Nat) (c1:((rs.length:Int)==0)=false) (c2:((ss.length:Int)==0)=false) (n1:0≤(i64.wrap ((i64.wrap ((rs.length:Int)+(ss.length:Int)))-1))∧(i64.wrap ((i64.wrap ((rs.length:Int)+(ss.length:Int)))-1))≤1048576) (hl2:Za Yir (.loop Yc53) ((.val (.sl rs.length (pc rs))::(.val (.sl ss.length (pc ss))::(dds 2 (.own 2 0 []::(.own 2 (Int.toNat (i64.wrap ((i64.wrap ((rs.length:Int)+(ss.length:Int)))-1))) (Qv [.bool false, .sl 0 []] (Int.toNat (i64.wrap ((i64.wrap ((rs.length:Int)+(ss.length:Int)))-1))))::(.val (.int .i64 0)::(dds 51 [])))))))) (.exit 0) (Zo5 rs ss k os i)) (n3:Zd Yir 43 [.sl k (pc os)] (.fresh 2 ts.length (pc ts))):Zd Yir 53 [.sl rs.length (pc rs), .sl ss.length (pc ss)] (.fresh 2 ts.length (pc ts)):=Zd.of_bodyW (fn:=Zty) (s:=(dds 4 (.own 2 ts.length (pc ts)::(dds 53 [])))) (ex := .ret) rfl rfl (Za.seq (Za.go (t:=(vp rs::(vp ss::(dds 2 (.own 2 0 []::(dds 53 [])))))) Zg 400 [] [0,1,4] a0) (Za.seq (Za.go (t:=(vp rs::(vp ss::(dds 2 (.own 2 0 []::(dds 53 [])))))) Zg 400 [.b false, .b false] [0,1,4] (ac c1 (ac c2 a0))) (Za.seq (Za.go (t:=(vp rs::(vp ss::(dds 2 (.own 2 0 []::(.own 2 (Int.toNat (i64.wrap ((i64.wrap ((rs.length:Int)+(ss.length:Int)))-1))) (Qv [.bool false, .sl 0 []] (Int.toNat (i64.wrap ((i64.wrap ((rs.length:Int)+(ss.length:Int)))-1))))::(dds 52 []))))))) Zg 400 [] [0,1,4,5] (ac n1 a0)) (Za.seq (Za.seq (Za.go Zg 400 [] [0,1,4,5,6] a0) (Za.block hl2)) (Za.go Zg 400 [.r (.fresh 2 ts.length (pc ts))] [4] (ac n3 a0)))))) (by intro i e;cases e) rfl
end Go.Proofs.Ythnnfemologhfaa

namespace Go.Proofs.Ythnnfemologhfaa
open Go.IntKind (i64 u64 u32)
open Go.Ai
set_option maxRecDepth 100000
theorem Zb6 (a b q r:Int) (hq:q=(a.natAbs:Int) / (b.natAbs:Int)) (hr:r=(a.natAbs:Int) % (b.natAbs:Int)) :
  (if (!(decide (a<0)==decide (b<0)))=true then -q else q)=Int.tdiv a b∧(if decide (a<0)=true then -r else r)=Int.tmod a b:=by
 subst hq hr
 have hA:(0:Int)≤(a.natAbs:Int):=by omega
 by_cases ha:a<0 <;> by_cases hb:b<0
 ·have ea:a = -(a.natAbs:Int):=by omega
  have eb:b = -(b.natAbs:Int):=by omega
  have h1:Int.tdiv a b=(a.natAbs:Int) / (b.natAbs:Int):=by
   rw[← Int.tdiv_eq_ediv_of_nonneg hA]
   conv=>lhs;rw[ea,eb,Int.neg_tdiv,Int.tdiv_neg,Int.neg_neg]
  have h2:Int.tmod a b = -((a.natAbs:Int) % (b.natAbs:Int)):=by
   rw[← Int.tmod_eq_emod_of_nonneg hA]
   conv=>lhs;rw[ea,eb,Int.neg_tmod,Int.tmod_neg]
  rw[h1,h2,decide_eq_true ha,decide_eq_true hb]
  simp
 ·have ea:a = -(a.natAbs:Int):=by omega
  have eb:b=(b.natAbs:Int):=by omega
  have h1:Int.tdiv a b = -((a.natAbs:Int) / (b.natAbs:Int)):=by
   rw[← Int.tdiv_eq_ediv_of_nonneg hA]
   conv=>lhs;rw[ea,eb,Int.neg_tdiv]
  have h2:Int.tmod a b = -((a.natAbs:Int) % (b.natAbs:Int)):=by
   rw[← Int.tmod_eq_emod_of_nonneg hA]
   conv=>lhs;rw[ea,eb,Int.neg_tmod]
  rw[h1,h2,decide_eq_true ha,decide_eq_false hb]
  simp
 ·have ea:a=(a.natAbs:Int):=by omega
  have eb:b = -(b.natAbs:Int):=by omega
  have h1:Int.tdiv a b = -((a.natAbs:Int) / (b.natAbs:Int)):=by
   rw[← Int.tdiv_eq_ediv_of_nonneg hA]
   conv=>lhs;rw[ea,eb,Int.tdiv_neg]
  have h2:Int.tmod a b=(a.natAbs:Int) % (b.natAbs:Int):=by
   rw[← Int.tmod_eq_emod_of_nonneg hA]
   conv=>lhs;rw[ea,eb,Int.tmod_neg]
  rw[h1,h2,decide_eq_false ha,decide_eq_true hb]
  simp
 ·have ea:a=(a.natAbs:Int):=by omega
  have eb:b=(b.natAbs:Int):=by omega
  have h1:Int.tdiv a b=(a.natAbs:Int) / (b.natAbs:Int):=by
   rw[← Int.tdiv_eq_ediv_of_nonneg hA]
   conv=>lhs;rw[ea,eb]
  have h2:Int.tmod a b=(a.natAbs:Int) % (b.natAbs:Int):=by
   rw[← Int.tmod_eq_emod_of_nonneg hA]
   conv=>lhs;rw[ea,eb]
  rw[h1,h2,decide_eq_false ha,decide_eq_false hb]
  simp
theorem Dl {na nb:Bool} {xs ys:List Int} (hx:U32 xs) (hy:U32 ys) (h0:rv nb ys ≠ 0) (h1:xs.length<1048576) (h2:ys.length<1048576) :
  Zd Yir 110 [.agg [.bool na, .sl xs.length (lm xs)], .agg [.bool nb, .sl ys.length (lm ys)]] (.tup [Zp (Int.tdiv (rv na xs) (rv nb ys)),Zp (Int.tmod (rv na xs) (rv nb ys))]):=by
 have l1:=U7 (neg:=na) hx
 have l2:=U7 (neg:=nb) hy
 have r1:=Jd (neg:=na) hx (by omega)
 have r2:=Jd (neg:=nb) hy (by omega)
 generalize rv na xs=a at *
 generalize rv nb ys=b at *
 have hb0:Zb b.natAbs ≠ []:=by rw[Ne,Kf];omega
 obtain⟨qs,rs,q1,q2,q3,q4,q5,q6,q7⟩:=Mf (Qz a.natAbs) (Qz b.natAbs) hb0 (by omega) (by omega)
 rw[J6,J6] at q5 q6
 obtain⟨e1,e2⟩:=Zb6 a b _ _ q5 q6
 have m1:=Xv (neg := !(decide (a<0)==decide (b<0))) q1 q3
 have m2:=Xv (neg:=decide (a<0)) q2 q4
 have f1:rv (!(decide (a<0)==decide (b<0))) qs=Int.tdiv a b:=e1
 have f2:rv (decide (a<0)) rs=Int.tmod a b:=e2
 rw[f1] at m1
 rw[f2] at m2
 exact Zpn na nb _ _ xs ys _ _ qs rs _ _ r1 r2 q7 m1 m2
theorem Eu {n:Nat} {b:Bool} (h:(Zb n).length≤2):Zd Yir 146 [.agg [.bool b, .sl (Zb n).length (lm (Zb n))]] (.int .u64 (n:Nat)):=by
 have hu:=Jr n
 have hv:=J6 n
 generalize hxs:Zb n=xs at *
 have hl:=Za.up (prog:=Yir) (c:=Zgs) (ex := .exit 0) (fin:=Ll xs (n:Nat) (xs.length:Nat) (xs.length:Nat))
  (fun i=>Ll xs (Zn (xs.take i)) (xs.length:Nat) (i:Nat)) xs.length (by intro e;cases e) ?_ ?_ 0 (Nat.zero_le _)
 ·exact Zpa b xs (n:Nat) (xs.length:Nat) (xs.length:Nat) (by simpa [Zn] using hl)
 ·intro i hi
  have ei:i64.wrap ((i:Int)+1)=((i+1:Nat):Int):=by rw[w64 (by omega) (by omega)];omega
  have e32:u64.wrap (i64.wrap (32*(i:Int)))=((32*i:Nat):Int):=by rw[w64 (by omega) (by omega),W1 (by omega)];omega
  have em:min (Int.toNat ((32*i:Nat):Int)) (IntKind.bits .u64)=32*i:=by rw[Int.toNat_natCast];show min (32*i) 64=32*i;omega
  have hxi:=Zw hu i
  have k:=Zqs xs (Zn (xs.take i)) (xs.length:Nat) (i:Nat) (by simp;omega) (by omega) (by rw[e32];omega)
  rw[ei,e32,em,Int.toNat_natCast,W1 (n:=xs.getD i 0) (by omega)] at k
  have hp:xs.getD i 0*2^(32*i)<18446744073709551616:=by
   have:=H4 (show 32*i≤32 by omega)
   rw[show (2:Int)^32=4294967296 by decide] at this
   have:=Int.mul_le_mul (show xs.getD i 0≤4294967295 by omega) this (by have:=J2 (32*i);omega) (by omega)
   omega
  have h0:=Int.mul_nonneg hxi.1 (show (0:Int)≤2^(32*i) by have:=J2 (32*i);omega)
  have hlt:=W4 hu i
  rw[Gk] at hlt
  rw[W1 ⟨h0,hp⟩,BitVec.or_comm,or64 hxi.1 hp (by omega) ⟨Z4 (Ur hu i),hlt⟩] at k
  refine k.to rfl ?_
  rw[Xb xs i hi,Gk]
  congr 1
  rw[Int.mul_comm];omega
 ·rw[List.take_length,hv]
  exact Zqr xs (n:Nat) (xs.length:Nat) (xs.length:Nat) (by simp)
theorem Py:∀ (f a b:Nat),b≤f→Za Yir (.loop Zgt) (Lm (a:Nat) (b:Nat)) (.exit 0) (Lm (Nat.gcd a b:Nat) 0):=by
 intro f
 induction f with
 | zero =>
  intro a b hb
  have:b=0:=by omega
  subst this
  rw[Nat.gcd_zero_right]
  exact Za.loop_out (Zf1 _ _ (by simp)) (by intro e;cases e)
 | succ f ih =>
  intro a b hb
  by_cases h0:b=0
  ·subst h0
   rw[Nat.gcd_zero_right]
   exact Za.loop_out (Zf1 _ _ (by simp)) (by intro e;cases e)
  ·have k:=Zqt (a:Nat) (b:Nat) (by simp;omega) (by omega)
   rw[Int.tmod_eq_emod_of_nonneg (by omega),← Int.natCast_emod] at k
   have hm:=Nat.mod_lt a (show 0<b by omega)
   have:=ih b (a % b) (by omega)
   rw[Nat.gcd_comm b,← Nat.gcd_rec,Nat.gcd_comm b a] at this
   exact Za.loop k this
theorem Zm2 {n:Nat} (h:(Zb n).length≤2):(n:Int)<18446744073709551616:=by
 have h1:=Ul (Jr n)
 rw[J6] at h1
 have h2:=Kz h
 rw[show (4294967296:Int)^2=18446744073709551616 by decide] at h2
 omega
theorem Zaf {n:Nat} (h:(n:Int)<18446744073709551616):Zd Yir 144 [.int .u64 (n:Nat)] (Zp (n:Nat)):=by
 obtain⟨h1,h2⟩:=Gq (u:=(n:Nat)) (by omega)
 have m:=Xv (neg:=false) h1 (by simp)
 have e:rv false [u32.wrap (n:Int),u32.wrap (Int.fdiv (n:Int) (2^(min (Int.toNat 32) (IntKind.bits .u64))))]=(n:Nat):=h2
 rw[e] at m
 exact Zpc (n:Nat) _ m
theorem cn_nat (n:Nat):cn (n:Nat)=(false,Zb n):=by
 unfold cn
 rw[Int.natAbs_natCast,decide_eq_false (by omega)]
theorem Dg (n:Nat):(cn (n:Nat)).2.length=(Zb n).length:=by rw [cn_nat]
theorem Zi2 {K:Nat} (hK:K<1048576):∀ (f a b:Nat),b≤f→Jh K (a:Nat)→Jh K (b:Nat) →
  (∃ y z,Za Yir (.loop Ay) (Wz (cn (a:Nat)) (cn (b:Nat)) (false,[])) (.exit 0) (Wz (cn (Nat.gcd a b:Nat)) y z)) ∨
  (∃ x y,Za Yir (.loop Ay) (Wz (cn (a:Nat)) (cn (b:Nat)) (false,[])) .ret (Wz x y (cn (Nat.gcd a b:Nat)))):=by
 intro f
 induction f with
 | zero =>
  intro a b hb _ _
  have:b=0:=by omega
  subst this
  rw[Nat.gcd_zero_right]
  exact Or.inl ⟨_,_,Za.loop_out (Zf3 _ _ _ (by rw[Dg];rfl)) (by intro e;cases e)⟩
 | succ f ih =>
  intro a b hb ka kb
  by_cases h0:b=0
  ·subst h0
   rw[Nat.gcd_zero_right]
   exact Or.inl ⟨_,_,Za.loop_out (Zf3 _ _ _ (by rw[Dg];rfl)) (by intro e;cases e)⟩
  ·have hbl:0<(Zb b).length:=List.length_pos_iff.2 (by rw[Ne,Kf];exact h0)
   have la:=ka.len
   have lb:=kb.len
   rw[Int.natAbs_natCast] at la lb
   by_cases h2:(Zb a).length≤2∧(Zb b).length≤2
   ·right
    have ta:=Zm2 h2.1
    have tb:=Zm2 h2.2
    have hg:((Nat.gcd a b:Nat):Int)<18446744073709551616:=by
     have:=Nat.le_of_dvd (by omega) (Nat.gcd_dvd_right a b)
     omega
    have u1:=Eu (b:=(cn (a:Nat)).1) h2.1
    have u2:=Eu (b:=(cn (b:Nat)).1) h2.2
    have u3:=Zpb (a:Nat) (b:Nat) _ _ (Py b a b (Nat.le_refl _))
    have u4:=Zaf hg
    have k:=Zrr (cn (a:Nat)) (cn (b:Nat)) (false,[]) (a:Nat) (b:Nat) (Nat.gcd a b:Nat) (Nat.gcd a b:Nat) (by rw[Dg];simp;omega) (by rw[Dg];simp;omega) (by rw[Dg];simp;omega) u1 u2 u3 u4
    exact⟨_,_,Za.loop_out k (by intro e;cases e)⟩
   ·have hq:=Dl (na:=(cn (a:Nat)).1) (nb:=(cn (b:Nat)).1) (xs:=(cn (a:Nat)).2) (ys:=(cn (b:Nat)).2) (Jr _) (Jr _) (by have:=Qe (b:Nat);unfold Zt at this;rw[this];omega) (by rw[Dg];omega) (by rw[Dg];omega)
    rw[show rv (cn (a:Nat)).1 (cn (a:Nat)).2=(a:Nat) from Qe _,show rv (cn (b:Nat)).1 (cn (b:Nat)).2=(b:Nat) from Qe _,Int.tmod_eq_emod_of_nonneg (by omega),← Int.natCast_emod] at hq
    have hm:=Nat.mod_lt a (show 0<b by omega)
    have step:Za Yir Ay (Wz (cn (a:Nat)) (cn (b:Nat)) (false,[])) .norm (Wz (cn (b:Nat)) (cn ((a % b:Nat):Int)) (false,[])):=by
     by_cases h3:(Zb a).length≤2
     ·exact Zrq (cn (a:Nat)) (cn (b:Nat)) (false,[]) _ _ (by rw[Dg];simp;omega) (by rw[Dg];simp;omega) (by rw[Dg];simp;omega) hq
     ·exact Zrp (cn (a:Nat)) (cn (b:Nat)) (false,[]) _ _ (by rw[Dg];simp;omega) (by rw[Dg];simp;omega) hq
    have kr:Jh K ((a % b:Nat):Int):=by
     unfold Jh at *
     rw[Int.natAbs_natCast] at *
     exact Nat.lt_of_le_of_lt (Nat.le_of_lt hm) kb
    have e:Nat.gcd b (a % b)=Nat.gcd a b:=by rw[Nat.gcd_comm b,← Nat.gcd_rec,Nat.gcd_comm b a]
    rcases ih b (a % b) (by omega) kb kr with ⟨y,z,h⟩ | ⟨x,y,h⟩
    ·rw[e] at h
     exact Or.inl ⟨y,z,Za.loop step h⟩
    ·rw[e] at h
     exact Or.inr ⟨x,y,Za.loop step h⟩
theorem R5 {na nb:Bool} {xs ys:List Int} (hx:U32 xs) (hy:U32 ys) (h1:xs.length<1048576) (h2:ys.length<1048576) :
  Zd Yir 109 [.agg [.bool na, .sl xs.length (lm xs)], .agg [.bool nb, .sl ys.length (lm ys)]] (Zp (Int.gcd (rv na xs) (rv nb ys):Nat)):=by
 have a1:=E1 (neg:=na) hx (by omega)
 have a2:=E1 (neg:=nb) hy (by omega)
 have f1:=Pc (neg:=na) hx
 have f2:=Pc (neg:=nb) hy
 have g1:Jh (max xs.length ys.length) (((rv na xs).natAbs:Nat):Int):=by
  unfold Jh at *;rw[Int.natAbs_natCast];exact Nat.lt_of_lt_of_le f1 (Nat.pow_le_pow_right (by decide) (by omega))
 have g2:Jh (max xs.length ys.length) (((rv nb ys).natAbs:Nat):Int):=by
  unfold Jh at *;rw[Int.natAbs_natCast];exact Nat.lt_of_lt_of_le f2 (Nat.pow_le_pow_right (by decide) (by omega))
 rcases Zi2 (K:=max xs.length ys.length) (by omega) _ _ _ (Nat.le_refl _) g1 g2 with ⟨y,z,h⟩ | ⟨x,y,h⟩
 ·exact Zfo na nb xs ys _ _ _ _ _ a1 a2 h
 ·exact Zfn na nb xs ys _ _ _ _ _ a1 a2 h
def TQE:Js:=TQD
theorem Z8:Qt Yir TQE:=Zg1
end Go.Proofs.Ythnnfemologhfaa

namespace Go.Proofs.Ythnnfemologhfaa
open Go.IntKind (i64 u64 u32)
open Go.Ai
set_option maxRecDepth 100000
def Zhh (N:Nat) (cs:List AV) (i:Int):Zk:=(.val (.sl N cs)::(dds 1 (.val (.int .i64 0)::(.val (.int .i64 i)::(dds 16 [])))))
theorem Yk62_1 (N:Nat) (cs:List AV) (i:Int) (r:Rn) (v:Int) (c1:(decide (i≥0))=true) (c2:(v==0)=true) (n1:0≤i∧i<(N:Int)) (n2:Zx (List.drop (Int.toNat i*2) cs) 0 2 false=some (.agg [.bool r.1, .sl r.2.length (lm r.2)])) (n3:Zd Yir 73 [.agg [.bool r.1, .sl r.2.length (lm r.2)]] (.int .i64 v)):Za Yir Zuo (Zhh N cs i) .norm (Zhh N cs (i64.wrap (i-1))):=Za.script (ps:=[(decide (i≥0))=true,0≤i∧i<(N:Int),Zx (List.drop (Int.toNat i*2) cs) 0 2 false=some (.agg [.bool r.1, .sl r.2.length (lm r.2)]),Zd Yir 73 [.agg [.bool r.1, .sl r.2.length (lm r.2)]] (.int .i64 v),(v==0)=true]) Zy 300 [.b true, .v (.agg [.bool r.1, .sl r.2.length (lm r.2)]), .r (.int .i64 v), .b true] [0,2,3] (by kernel_rfl) ⟨c1,n1,n2,n3,c2,trivial⟩
theorem Yk62_2 (N:Nat) (cs:List AV) (i:Int) (r:Rn) (v:Int) (c1:(decide (i≥0))=true) (c2:(v==0)=false) (n1:0≤i∧i<(N:Int)) (n2:Zx (List.drop (Int.toNat i*2) cs) 0 2 false=some (.agg [.bool r.1, .sl r.2.length (lm r.2)])) (n3:Zd Yir 73 [.agg [.bool r.1, .sl r.2.length (lm r.2)]] (.int .i64 v)):Za Yir Zuo (Zhh N cs i) (.exit 0) (Zhh N cs i):=Za.script (ps:=[(decide (i≥0))=true,0≤i∧i<(N:Int),Zx (List.drop (Int.toNat i*2) cs) 0 2 false=some (.agg [.bool r.1, .sl r.2.length (lm r.2)]),Zd Yir 73 [.agg [.bool r.1, .sl r.2.length (lm r.2)]] (.int .i64 v),(v==0)=false]) Zy 300 [.b true, .v (.agg [.bool r.1, .sl r.2.length (lm r.2)]), .r (.int .i64 v), .b false] [0,2,3] (by kernel_rfl) ⟨c1,n1,n2,n3,c2,trivial⟩
theorem Yk62_3 (N:Nat) (cs:List AV) (i:Int) (c1:(decide (i≥0))=false):Za Yir Zuo (Zhh N cs i) (.exit 0) (Zhh N cs i):=Za.script (ps:=[(decide (i≥0))=false,false=false]) Zy 300 [.b false, .b false] [0,2,3] (by kernel_rfl) ⟨c1,rfl,trivial⟩
theorem Sh {n:Int}:Vp n=0↔n=0:=by unfold Vp;split <;> (try split) <;> omega
theorem Zpv (rs:List Rn) (hg:∀ r∈rs,J4 1048576 r) (hN:rs.length≤1048576):∀ m,m≤rs.length→Za Yir (.loop Zuo) (Zhh rs.length (pc rs) ((m:Int)-1)) (.exit 0) (Zhh rs.length (pc rs) (((Zv (Zl rs) m:Nat):Int)-1)):=by
 intro m
 induction m with
 | zero =>
  intro _
  exact Za.loop_out (Yk62_3 rs.length (pc rs) (((0:Nat):Int)-1) (by simp)) (by intro e;cases e)
 | succ m ih =>
  intro hm
  have e0:((m+1:Nat):Int)-1=(m:Int):=by omega
  have e1:i64.wrap ((m:Int)-1)=(m:Int)-1:=w64 (by omega) (by omega)
  have hx:=Bd (rs:=rs) (i:=m) (by omega)
  have gm:=Qb hg m
  have hs:=Gc (neg:=(rs.getD m z0).1) gm.1 gm.2
  rw[e0]
  simp only[Zv]
  rw[Q8]
  by_cases h0:Zt (rs.getD m z0)=0
  ·rw[if_pos h0]
   have h1:=Yk62_1 rs.length (pc rs) (m:Int) (rs.getD m z0) (Vp (Zt (rs.getD m z0))) (by simp) (by rw[beq_iff_eq];exact Sh.2 h0) (by omega) (by rw[Int.toNat_natCast];exact hx) hs
   rw[e1] at h1
   exact Za.loop h1 (ih (by omega))
  ·rw[if_neg h0,e0]
   exact Za.loop_out (Yk62_2 rs.length (pc rs) (m:Int) (rs.getD m z0) (Vp (Zt (rs.getD m z0))) (by simp) (by rw[beq_eq_false_iff_ne];exact fun h=>h0 (Sh.1 h)) (by omega) (by rw[Int.toNat_natCast];exact hx) hs) (by intro e;cases e)
theorem Fp {rs:List Rn} (hg:∀ r∈rs,J4 1048576 r) (hN:rs.length≤1048576):Zd Yir 62 [.sl rs.length (pc rs)] (.int .i64 (((Zv (Zl rs) rs.length:Nat):Int)-1)):=by
 have e1:i64.wrap ((rs.length:Int)-1)=(rs.length:Int)-1:=w64 (by omega) (by omega)
 have hl:Za Yir (.loop Zuo) (Zhh rs.length (pc rs) (i64.wrap ((rs.length:Int)-1))) (.exit 0) (Zhh rs.length (pc rs) (((Zv (Zl rs) rs.length:Nat):Int)-1)):=by
  rw[e1];exact Zpv rs hg hN rs.length (Nat.le_refl _)
 exact Zd.of_bodyW (fn:=Yi62) (s:=(.val (.sl rs.length (pc rs))::(dds 1 (.val (.int .i64 (((Zv (Zl rs) rs.length:Nat):Int)-1))::(.val (.int .i64 (((Zv (Zl rs) rs.length:Nat):Int)-1))::(dds 15 (.val (.int .i64 (((Zv (Zl rs) rs.length:Nat):Int)-1))::[]))))))) (ex := .ret) rfl rfl
  (Za.seq (Za.script (t:=(.val (.sl rs.length (pc rs))::(dds 1 (.val (.int .i64 0)::(dds 17 []))))) (ex := .norm) (ps:=[]) Zy 300 [] [0,2] (by kernel_rfl) trivial)
  (Za.seq (Za.script (t:=(.val (.sl rs.length (pc rs))::(dds 1 (.val (.int .i64 0)::(.val (.int .i64 (i64.wrap ((rs.length:Int)-1)))::(dds 16 [])))))) (ex := .norm) (ps:=[]) Zy 300 [] [0,2,3] (by kernel_rfl) trivial)
  (Za.seq (Za.block hl)
  (Za.script (t:=(.val (.sl rs.length (pc rs))::(dds 1 (.val (.int .i64 (((Zv (Zl rs) rs.length:Nat):Int)-1))::(.val (.int .i64 (((Zv (Zl rs) rs.length:Nat):Int)-1))::(dds 15 (.val (.int .i64 (((Zv (Zl rs) rs.length:Nat):Int)-1))::[]))))))) (ex := .ret) (ps:=[]) Zy 300 [] [0,2,3,19] (by kernel_rfl) trivial)))) (by intro i e;cases e) rfl
def Znq (N:Nat) (cs:List AV) (n:Nat) (os:List AV) (m:Int) (i:Int):Zk:=(.val (.sl N cs)::(dds 1 (.own 2 0 []::(dds 1 (.own 2 n os::(dds 9 (.val (.int .i64 m)::(.val (.int .i64 i)::(dds 12 [])))))))))
theorem Yk92_1 (N:Nat) (cs:List AV) (n:Nat) (os:List AV) (m:Int) (i:Int) (ds:List AV) (r:Rn) (v:Int) (c1:(decide (i<m))=true) (n1:0≤i∧i<(N:Int)) (n2:Zx (List.drop (Int.toNat i*2) cs) 0 2 false=some (.agg [.bool r.1, .sl r.2.length (lm r.2)])) (n3:Zd Yir 132 [.agg [.bool r.1, .sl r.2.length (lm r.2)]] (.agg [.bool (decide (v<0)), .sl ((Zb (Int.natAbs v)).length) (lm (Zb (Int.natAbs v)))])) (n4:0≤i∧i<(n:Int)) (n5:X1 os (Int.toNat i*2) [.bool (decide (v<0)), .sl ((Zb (Int.natAbs v)).length) (lm (Zb (Int.natAbs v)))]=some ds):Za Yir Yc92 (Znq N cs n os m i) .norm (Znq N cs n ds m (i64.wrap (i+1))):=Za.script (ps:=[(decide (i<m))=true,0≤i∧i<(N:Int),Zx (List.drop (Int.toNat i*2) cs) 0 2 false=some (.agg [.bool r.1, .sl r.2.length (lm r.2)]),Zd Yir 132 [.agg [.bool r.1, .sl r.2.length (lm r.2)]] (.agg [.bool (decide (v<0)), .sl ((Zb (Int.natAbs v)).length) (lm (Zb (Int.natAbs v)))]),0≤i∧i<(n:Int),X1 os (Int.toNat i*2) [.bool (decide (v<0)), .sl ((Zb (Int.natAbs v)).length) (lm (Zb (Int.natAbs v)))]=some ds]) Zy 300 [.b true, .v (.agg [.bool r.1, .sl r.2.length (lm r.2)]), .r (.agg [.bool (decide (v<0)), .sl ((Zb (Int.natAbs v)).length) (lm (Zb (Int.natAbs v)))]), .l ds] [0,2,4,14,15] (by kernel_rfl) ⟨c1,n1,n2,n3,n4,n5,trivial⟩
theorem Yk92_2 (N:Nat) (cs:List AV) (n:Nat) (os:List AV) (m:Int) (i:Int) (c1:(decide (i<m))=false):Za Yir Yc92 (Znq N cs n os m i) (.exit 0) (Znq N cs n os m i):=Za.script (ps:=[(decide (i<m))=false]) Zy 300 [.b false] [0,2,4,14,15] (by kernel_rfl) ⟨c1,trivial⟩
theorem Zps (rs:List Rn) (hg:∀ r∈rs,J4 1048576 r) (hN:rs.length≤1048576) (n:Nat) (hn:n≤rs.length):∀ (r i:Nat),i+r=n →
  Za Yir (.loop Yc92) (Znq rs.length (pc rs) n (pc (Vl (fun j=>cn (Zt (rs.getD j z0))) i r)) (n:Int) (i:Int)) (.exit 0) (Znq rs.length (pc rs) n (pc (Vl (fun j=>cn (Zt (rs.getD j z0))) n 0)) (n:Int) (n:Int)):=by
 intro r
 induction r with
 | zero =>
  intro i hi
  have hi':i=n:=by omega
  subst hi'
  exact Za.loop_out (Yk92_2 rs.length (pc rs) i _ (i:Int) (i:Int) (by simp)) (by intro e;cases e)
 | succ r ih =>
  intro i hi
  have ei:i64.wrap ((i:Int)+1)=((i+1:Nat):Int):=by rw[w64 (by omega) (by omega)];omega
  have hx:=Bd (rs:=rs) (i:=i) (by omega)
  have gm:=Qb hg i
  have hs:=Zbx (neg:=(rs.getD i z0).1) gm.1 gm.2
  have hst:=Zdk (rs:=Vl (fun j=>cn (Zt (rs.getD j z0))) i (r+1)) (i:=i) (r:=cn (Zt (rs.getD i z0))) (by rw[Gu];omega)
  rw[Ek (fun j=>cn (Zt (rs.getD j z0))) i r] at hst
  have h1:=Yk92_1 rs.length (pc rs) n _ (n:Int) (i:Int) _ (rs.getD i z0) (Zt (rs.getD i z0)) (by simp;omega) (by omega) (by rw[Int.toNat_natCast];exact hx) hs (by omega) (by rw[Int.toNat_natCast];exact hst)
  rw[ei] at h1
  exact Za.loop h1 (ih (i+1) (by omega))
theorem Zjq (rs:List Rn) (hd:Zd Yir 62 [.sl rs.length (pc rs)] (.int .i64 (((Zv (Zl rs) rs.length:Nat):Int)-1))) (hz:((i64.wrap ((((Zv (Zl rs) rs.length:Nat):Int)-1)+1))==0)=true):Zd Yir 92 [.sl rs.length (pc rs)] (.fresh 2 0 []):=Zd.script (ps:=[Zd Yir 62 [.sl rs.length (pc rs)] (.int .i64 (((Zv (Zl rs) rs.length:Nat):Int)-1)),((i64.wrap ((((Zv (Zl rs) rs.length:Nat):Int)-1)+1))==0)=true]) Zy rfl 300 rfl [.r (.int .i64 (((Zv (Zl rs) rs.length:Nat):Int)-1)), .b true] (by kernel_rfl) ⟨hd,hz,trivial⟩
theorem Zjr (rs ss:List Rn) (hd:Zd Yir 62 [.sl rs.length (pc rs)] (.int .i64 (((Zv (Zl rs) rs.length:Nat):Int)-1))) (hz:((i64.wrap ((((Zv (Zl rs) rs.length:Nat):Int)-1)+1))==0)=false) (hmk:0≤i64.wrap ((((Zv (Zl rs) rs.length:Nat):Int)-1)+1)∧i64.wrap ((((Zv (Zl rs) rs.length:Nat):Int)-1)+1)≤1048576) (hl:Za Yir (.loop Yc92) (Znq rs.length (pc rs) (Int.toNat (i64.wrap ((((Zv (Zl rs) rs.length:Nat):Int)-1)+1))) (Qv [.bool false, .sl 0 []] (Int.toNat (i64.wrap ((((Zv (Zl rs) rs.length:Nat):Int)-1)+1)))) (((Int.toNat (i64.wrap ((((Zv (Zl rs) rs.length:Nat):Int)-1)+1))):Nat):Int) 0) (.exit 0) (Znq rs.length (pc rs) (Int.toNat (i64.wrap ((((Zv (Zl rs) rs.length:Nat):Int)-1)+1))) (pc ss) (((Int.toNat (i64.wrap ((((Zv (Zl rs) rs.length:Nat):Int)-1)+1))):Nat):Int) (((Int.toNat (i64.wrap ((((Zv (Zl rs) rs.length:Nat):Int)-1)+1))):Nat):Int))):Zd Yir 92 [.sl rs.length (pc rs)] (.fresh 2 (Int.toNat (i64.wrap ((((Zv (Zl rs) rs.length:Nat):Int)-1)+1))) (pc ss)):=Zd.of_bodyW (fn:=Yi92) (s:=(.val (.sl rs.length (pc rs))::(dds 1 (.own 2 (Int.toNat (i64.wrap ((((Zv (Zl rs) rs.length:Nat):Int)-1)+1))) (pc ss)::(dds 11 (.val (.int .i64 (((Int.toNat (i64.wrap ((((Zv (Zl rs) rs.length:Nat):Int)-1)+1))):Nat):Int))::(.val (.int .i64 (((Int.toNat (i64.wrap ((((Zv (Zl rs) rs.length:Nat):Int)-1)+1))):Nat):Int))::(dds 12 [])))))))) (ex := .ret) rfl rfl (Za.seq (Za.script (t:=(vp rs::(dds 1 (.own 2 0 []::(dds 25 []))))) (ps:=[]) Zy 300 [] [0,2] (by kernel_rfl) trivial) (Za.seq (Za.script (t:=(vp rs::(dds 1 (.own 2 0 []::(vi (i64.wrap ((((Zv (Zl rs) rs.length:Nat):Int)-1)+1))::(dds 2 (vp rs::(vi (((Zv (Zl rs) rs.length:Nat):Int)-1)::(vi (i64.wrap ((((Zv (Zl rs) rs.length:Nat):Int)-1)+1))::(dds 19 [])))))))))) (ps:=[Zd Yir 62 [.sl rs.length (pc rs)] (.int .i64 (((Zv (Zl rs) rs.length:Nat):Int)-1))]) Zy 300 [.r (.int .i64 (((Zv (Zl rs) rs.length:Nat):Int)-1))] [0,2,3,6,7,8] (by kernel_rfl) ⟨hd,trivial⟩) (Za.seq (Za.script (t:=(vp rs::(dds 1 (.own 2 0 []::(vi (i64.wrap ((((Zv (Zl rs) rs.length:Nat):Int)-1)+1))::(dds 2 (vp rs::(vi (((Zv (Zl rs) rs.length:Nat):Int)-1)::(vi (i64.wrap ((((Zv (Zl rs) rs.length:Nat):Int)-1)+1))::(vi (i64.wrap ((((Zv (Zl rs) rs.length:Nat):Int)-1)+1))::(.val (.bool ((i64.wrap ((((Zv (Zl rs) rs.length:Nat):Int)-1)+1))==0))::(dds 17 [])))))))))))) (ps:=[((i64.wrap ((((Zv (Zl rs) rs.length:Nat):Int)-1)+1))==0)=false]) Zy 300 [.b false] [0,2,3,6,7,8,9,10] (by kernel_rfl) ⟨hz,trivial⟩) (Za.seq (Za.script (t:=(vp rs::(dds 1 (.own 2 0 []::(vi (i64.wrap ((((Zv (Zl rs) rs.length:Nat):Int)-1)+1))::(.own 2 (Int.toNat (i64.wrap ((((Zv (Zl rs) rs.length:Nat):Int)-1)+1))) (Qv [.bool false, .sl 0 []] (Int.toNat (i64.wrap ((((Zv (Zl rs) rs.length:Nat):Int)-1)+1))))::(dds 1 (vp rs::(vi (((Zv (Zl rs) rs.length:Nat):Int)-1)::(vi (i64.wrap ((((Zv (Zl rs) rs.length:Nat):Int)-1)+1))::(vi (i64.wrap ((((Zv (Zl rs) rs.length:Nat):Int)-1)+1))::(.val (.bool ((i64.wrap ((((Zv (Zl rs) rs.length:Nat):Int)-1)+1))==0))::(vi (i64.wrap ((((Zv (Zl rs) rs.length:Nat):Int)-1)+1))::(dds 16 [])))))))))))))) (ps:=[0≤(i64.wrap ((((Zv (Zl rs) rs.length:Nat):Int)-1)+1))∧(i64.wrap ((((Zv (Zl rs) rs.length:Nat):Int)-1)+1))≤1048576]) Zy 300 [] [0,2,3,4,6,7,8,9,10,11] (by kernel_rfl) ⟨hmk,trivial⟩) (Za.seq (Za.seq (Za.script (t:=(vp rs::(dds 1 (.own 2 0 []::(dds 1 (.own 2 (Int.toNat (i64.wrap ((((Zv (Zl rs) rs.length:Nat):Int)-1)+1))) (Qv [.bool false, .sl 0 []] (Int.toNat (i64.wrap ((((Zv (Zl rs) rs.length:Nat):Int)-1)+1))))::(dds 9 (vi (((Int.toNat (i64.wrap ((((Zv (Zl rs) rs.length:Nat):Int)-1)+1))):Nat):Int)::(vi 0::(dds 12 [])))))))))) (ps:=[]) Zy 300 [] [0,2,4,14,15] (by kernel_rfl) trivial) (Za.block hl)) (Za.script (t:=(vp rs::(dds 1 (.own 2 (Int.toNat (i64.wrap ((((Zv (Zl rs) rs.length:Nat):Int)-1)+1))) (pc ss)::(dds 11 (vi (((Int.toNat (i64.wrap ((((Zv (Zl rs) rs.length:Nat):Int)-1)+1))):Nat):Int)::(vi (((Int.toNat (i64.wrap ((((Zv (Zl rs) rs.length:Nat):Int)-1)+1))):Nat):Int)::(dds 12 [])))))))) (ex := .ret) (ps:=[]) Zy 300 [] [0,2,14,15] (by kernel_rfl) trivial)))))) (by intro i e;cases e) rfl
theorem Ae {rs:List Rn} (hg:∀ r∈rs,J4 1048576 r) (hN:rs.length≤1048576):Zd Yir 92 [.sl rs.length (pc rs)] (.fresh 2 (Ze (Zl rs)).length (pk (Ze (Zl rs)))):=by
 have hle:=We (Zl rs) rs.length
 have hlen:(Ze (Zl rs)).length=Zv (Zl rs) rs.length:=by rw[Un,Z3]
 have hd:=Fp hg hN
 have e1:i64.wrap ((((Zv (Zl rs) rs.length:Nat):Int)-1)+1)=((Zv (Zl rs) rs.length:Nat):Int):=by rw[w64 (by omega) (by omega)];omega
 have e2:(Int.toNat (i64.wrap ((((Zv (Zl rs) rs.length:Nat):Int)-1)+1)))=Zv (Zl rs) rs.length:=by rw[e1,Int.toNat_natCast]
 by_cases h0:Zv (Zl rs) rs.length=0
 ·have h:=Zjq rs hd (by rw[e1,h0];rfl)
  have:Ze (Zl rs)=[]:=List.eq_nil_of_length_eq_zero (by omega)
  rw[this]
  exact h
 ·have hl:=Zps rs hg hN (Zv (Zl rs) rs.length) hle (Zv (Zl rs) rs.length) 0 (by omega)
  rw[B5,← E8] at hl
  have h:=Zjr rs _ hd (by rw[e1,beq_eq_false_iff_ne];omega) (by rw[e1];omega) (by rw[e2];exact hl)
  rw[e2,B6] at h
  have e3:(List.range (Zv (Zl rs) rs.length)).map (fun j=>cn (Zt (rs.getD j z0)))=(Ze (Zl rs)).map cn:=by
   rw[← E9,hlen]
   apply List.map_congr_left
   intro i _
   rw[Jg,Q8]
  rw[e3] at h
  rw[hlen]
  exact h
def Ln (N:Nat) (cs:List AV) (n:Nat) (os:List AV) (m:Int) (i:Int):Zk:=(.val (.sl N cs)::(dds 1 (.own 2 0 []::(.own 2 n os::(dds 5 (.val (.int .i64 m)::(.val (.int .i64 i)::(dds 12 []))))))))
theorem Zq9 (N:Nat) (cs:List AV) (n:Nat) (os:List AV) (m:Int) (i:Int) (ds:List AV) (r:Rn) (v:Int) (c1:(decide (i<m))=true) (n1:0≤i∧i<(N:Int)) (n2:Zx (List.drop (Int.toNat i*2) cs) 0 2 false=some (.agg [.bool r.1, .sl r.2.length (lm r.2)])) (n3:Zd Yir 112 [.agg [.bool r.1, .sl r.2.length (lm r.2)]] (.agg [.bool (decide (v<0)), .sl ((Zb (Int.natAbs v)).length) (lm (Zb (Int.natAbs v)))])) (n4:0≤i∧i<(n:Int)) (n5:X1 os (Int.toNat i*2) [.bool (decide (v<0)), .sl ((Zb (Int.natAbs v)).length) (lm (Zb (Int.natAbs v)))]=some ds):Za Yir Zgu (Ln N cs n os m i) .norm (Ln N cs n ds m (i64.wrap (i+1))):=Za.script (ps:=[(decide (i<m))=true,0≤i∧i<(N:Int),Zx (List.drop (Int.toNat i*2) cs) 0 2 false=some (.agg [.bool r.1, .sl r.2.length (lm r.2)]),Zd Yir 112 [.agg [.bool r.1, .sl r.2.length (lm r.2)]] (.agg [.bool (decide (v<0)), .sl ((Zb (Int.natAbs v)).length) (lm (Zb (Int.natAbs v)))]),0≤i∧i<(n:Int),X1 os (Int.toNat i*2) [.bool (decide (v<0)), .sl ((Zb (Int.natAbs v)).length) (lm (Zb (Int.natAbs v)))]=some ds]) Zy 300 [.b true, .v (.agg [.bool r.1, .sl r.2.length (lm r.2)]), .r (.agg [.bool (decide (v<0)), .sl ((Zb (Int.natAbs v)).length) (lm (Zb (Int.natAbs v)))]), .l ds] [0,2,3,9,10] (by kernel_rfl) ⟨c1,n1,n2,n3,n4,n5,trivial⟩
theorem Zq8 (N:Nat) (cs:List AV) (n:Nat) (os:List AV) (m:Int) (i:Int) (c1:(decide (i<m))=false):Za Yir Zgu (Ln N cs n os m i) (.exit 0) (Ln N cs n os m i):=Za.script (ps:=[(decide (i<m))=false]) Zy 300 [.b false] [0,2,3,9,10] (by kernel_rfl) ⟨c1,trivial⟩
theorem Zko (rs:List Rn) (hg:∀ r∈rs,J4 1048576 r) (hN:rs.length≤1048576) (n:Nat) (hn:n≤rs.length):∀ (r i:Nat),i+r=n →
  Za Yir (.loop Zgu) (Ln rs.length (pc rs) n (pc (Vl (fun j=>cn (-(Zt (rs.getD j z0)))) i r)) (n:Int) (i:Int)) (.exit 0) (Ln rs.length (pc rs) n (pc (Vl (fun j=>cn (-(Zt (rs.getD j z0)))) n 0)) (n:Int) (n:Int)):=by
 intro r
 induction r with
 | zero =>
  intro i hi
  have hi':i=n:=by omega
  subst hi'
  exact Za.loop_out (Zq8 rs.length (pc rs) i _ (i:Int) (i:Int) (by simp)) (by intro e;cases e)
 | succ r ih =>
  intro i hi
  have ei:i64.wrap ((i:Int)+1)=((i+1:Nat):Int):=by rw[w64 (by omega) (by omega)];omega
  have hx:=Bd (rs:=rs) (i:=i) (by omega)
  have gm:=Qb hg i
  have hs:=R4 (neg:=(rs.getD i z0).1) gm.1 gm.2
  have hst:=Zdk (rs:=Vl (fun j=>cn (-(Zt (rs.getD j z0)))) i (r+1)) (i:=i) (r:=cn (-(Zt (rs.getD i z0)))) (by rw[Gu];omega)
  rw[Ek (fun j=>cn (-(Zt (rs.getD j z0)))) i r] at hst
  have h1:=Zq9 rs.length (pc rs) n _ (n:Int) (i:Int) _ (rs.getD i z0) (-(Zt (rs.getD i z0))) (by simp;omega) (by omega) (by rw[Int.toNat_natCast];exact hx) hs (by omega) (by rw[Int.toNat_natCast];exact hst)
  rw[ei] at h1
  exact Za.loop h1 (ih (i+1) (by omega))
theorem Zpg (rs ss:List Rn) (hmk:0≤(rs.length:Int)∧(rs.length:Int)≤1048576) (hl:Za Yir (.loop Zgu) (Ln rs.length (pc rs) (Int.toNat (rs.length:Int)) (Qv [.bool false, .sl 0 []] (Int.toNat (rs.length:Int))) (rs.length:Int) 0) (.exit 0) (Ln rs.length (pc rs) (Int.toNat (rs.length:Int)) (pc ss) (rs.length:Int) (rs.length:Int))):Zd Yir 127 [.sl rs.length (pc rs)] (.fresh 2 (Int.toNat (rs.length:Int)) (pc ss)):=Zd.of_bodyW (fn:=Zge) (s:=(.val (.sl rs.length (pc rs))::(dds 1 (.own 2 (Int.toNat (rs.length:Int)) (pc ss)::(dds 6 (.val (.int .i64 (rs.length:Int))::(.val (.int .i64 (rs.length:Int))::(dds 12 [])))))))) (ex := .ret) rfl rfl (Za.seq (Za.script (t:=(vp rs::(dds 1 (.own 2 0 []::(dds 20 []))))) (ps:=[]) Zy 300 [] [0,2] (by kernel_rfl) trivial) (Za.seq (Za.script (t:=(vp rs::(dds 1 (.own 2 0 []::(.own 2 (Int.toNat (rs.length:Int)) (Qv [.bool false, .sl 0 []] (Int.toNat (rs.length:Int)))::(dds 1 (vp rs::(vi (rs.length:Int)::(dds 16 []))))))))) (ps:=[0≤(rs.length:Int)∧(rs.length:Int)≤1048576]) Zy 300 [] [0,2,3,5,6] (by kernel_rfl) ⟨hmk,trivial⟩) (Za.seq (Za.seq (Za.script (t:=(vp rs::(dds 1 (.own 2 0 []::(.own 2 (Int.toNat (rs.length:Int)) (Qv [.bool false, .sl 0 []] (Int.toNat (rs.length:Int)))::(dds 5 (vi (rs.length:Int)::(vi 0::(dds 12 []))))))))) (ps:=[]) Zy 300 [] [0,2,3,9,10] (by kernel_rfl) trivial) (Za.block hl)) (Za.script (t:=(vp rs::(dds 1 (.own 2 (Int.toNat (rs.length:Int)) (pc ss)::(dds 6 (vi (rs.length:Int)::(vi (rs.length:Int)::(dds 12 [])))))))) (ex := .ret) (ps:=[]) Zy 300 [] [0,2,9,10] (by kernel_rfl) trivial)))) (by intro i e;cases e) rfl
theorem Ws {rs:List Rn} (hg:∀ r∈rs,J4 1048576 r) (hN:rs.length≤1048576):Zd Yir 127 [.sl rs.length (pc rs)] (.fresh 2 rs.length (pk (X4 (Zl rs)))):=by
 have hl:=Zko rs hg hN rs.length (Nat.le_refl _) rs.length 0 (by omega)
 rw[B5,← E8] at hl
 have h:=Zpg rs _ (by omega) (by rw[Int.toNat_natCast];exact hl)
 rw[Int.toNat_natCast,B6] at h
 have e3:(List.range rs.length).map (fun j=>cn (-(Zt (rs.getD j z0))))=(X4 (Zl rs)).map cn:=by
  have hq:(X4 (Zl rs)).length=rs.length:=by simp[X4,Zl]
  rw[← E9,hq]
  apply List.map_congr_left
  intro i _
  rw[Wb,Q8]
 rw[e3] at h
 exact h
def TAA:Js:=TWC
theorem Qd:Qt Yir TAA:=Zy
end Go.Proofs.Ythnnfemologhfaa

namespace Go.Proofs.Ythnnfemologhfaa
open Go.IntKind (i64 u64 u32)
open Go.Ai
set_option maxRecDepth 100000
def Zhg (rs:List Rn) (w:Rn) (i:Int) (z:Rn):Zk:=(.val (.sl rs.length (pc rs))::(dds 1 (.box [.bool z.1, .sl z.2.length (lm z.2)]::(.box [.bool w.1, .sl w.2.length (lm w.2)]::(.val (.int .i64 i)::(dds 19 []))))))
theorem Yk85_1 (rs:List Rn) (w:Rn) (i:Int) (z:Rn) (b g:Int) (c1:(decide (i≥0))=true) (c2:(b != 1)=true) (n1:0≤i∧i<(rs.length:Int)) (n2:Zd Yir 77 [Z5 w] (.int .i64 b)) (n3:Zd Yir 109 [Z5 w,Z5 (rs.getD (Int.toNat i) z0)] (Zp g)):Za Yir Zun (Zhg rs w i z) .norm (Zhg rs (cn g) (i64.wrap (i-1)) z):=(Za.go Z8 400 [.b true, .r (.int .i64 b), .b true, .v (Z5 (rs.getD (Int.toNat i) z0)), .r (Zp g)] [0,2,3,4] (ac c1 (ac n2 (ac c2 (ac n1 (ac (J1 n1) (ac n3 a0)))))))
theorem Yk85_2 (rs:List Rn) (w:Rn) (i:Int) (z:Rn) (b:Int) (c1:(decide (i≥0))=true) (c2:(b != 1)=false) (n1:Zd Yir 77 [Z5 w] (.int .i64 b)):Za Yir Zun (Zhg rs w i z) (.exit 0) (Zhg rs w i z):=(Za.go Z8 400 [.b true, .r (.int .i64 b), .b false] [0,2,3,4] (ac c1 (ac n1 (ac c2 a0))))
theorem Yk85_3 (rs:List Rn) (w:Rn) (i:Int) (z:Rn)  (c1:(decide (i≥0))=false):Za Yir Zun (Zhg rs w i z) (.exit 0) (Zhg rs w i z):=(Za.go Z8 400 [.b false, .b false] [0,2,3,4] (ac c1 (ac (show false=false from rfl) a0)))
theorem Yrun85 (rs:List Rn) (w z:Rn) (i:Int) (hl1:Za Yir (.loop Zun) (Zhg rs (false,[]) (i64.wrap ((rs.length:Int)-1)) (false,[])) (.exit 0) (Zhg rs w i z)):Zd Yir 85 [.sl rs.length (pc rs)] (Z5 w):=Zd.of_bodyW (fn:=Yi85) (s:=(dds 2 (.box [.bool w.1, .sl w.2.length (lm w.2)]::(dds 21 [])))) (ex := .ret) rfl rfl (Za.seq (Za.go (t:=(vp rs::(dds 1 (.box [.bool false, .sl 0 []]::(dds 21 []))))) Z8 400 [] [0,2] a0) (Za.seq (Za.go (t:=(vp rs::(dds 1 (.box [.bool false, .sl 0 []]::(.box [.bool false, .sl 0 []]::(dds 20 [])))))) Z8 400 [] [0,2,3] a0) (Za.seq (Za.seq (Za.go Z8 400 [] [0,2,3,4] a0) (Za.block hl1)) (Za.go Z8 400 [] [2] a0)))) (by intro i e;cases e) rfl
def Zhf (k:Nat) (os:List Rn) (w:Rn) (n:Int) (i:Int):Zk:=(dds 3 (.own 2 k (pc os)::(.box [.bool w.1, .sl w.2.length (lm w.2)]::(dds 9 (.val (.int .i64 n)::(.val (.int .i64 i)::(dds 16 [])))))))
theorem Yk86_1 (k:Nat) (os:List Rn) (w:Rn) (n:Int) (i:Int) (q r:Int) (c1:(decide (i<n))=true) (n1:0≤i∧i<(k:Int)) (n2:os.length=k) (n3:Zd Yir 110 [Z5 (os.getD (Int.toNat i) z0),Z5 w] (.tup [Zp q,Zp r])):Za Yir Zum (Zhf k os w n i) .norm (Zhf k (os.set (Int.toNat i) (cn q)) w n (i64.wrap (i+1))):=(Za.go Z8 400 [.b true, .v (Z5 (os.getD (Int.toNat i) z0)), .r (.tup [Zp q,Zp r]), .l (pc (os.set (Int.toNat i) (cn q)))] [3,4,14,15] (ac c1 (ac n1 (ac (Vh n2 n1) (ac n3 (ac n1 (ac (Wl (r:=cn q) n2 n1) a0)))))))
theorem Yk86_2 (k:Nat) (os:List Rn) (w:Rn) (n:Int) (i:Int)  (c1:(decide (i<n))=false):Za Yir Zum (Zhf k os w n i) (.exit 0) (Zhf k os w n i):=(Za.go Z8 400 [.b false] [3,4,14,15] (ac c1 a0))
theorem Zjt (rs ts os:List Rn) (w:Rn) (g b n i:Int) (k:Nat) (c1:(decide (b>1))=true) (n1:Zd Yir 92 [.sl rs.length (pc rs)] (.fresh 2 ts.length (pc ts))) (n2:List.all (pc ts) (fun c => !isI c)=true) (n3:Uv (Zp g)=true) (n4:Zd Yir 85 [.sl ts.length (pc ts)] (Zp g)) (n5:Zd Yir 77 [Zp g] (.int .i64 b)) (hl6:Za Yir (.loop Zum) (Zhf ts.length ts (cn g) (ts.length:Int) 0) (.exit 0) (Zhf k os w n i)):Zd Yir 86 [.sl rs.length (pc rs)] (.fresh 2 k (pc os)):=Zd.of_bodyW (fn:=Zuh) (s:=(dds 2 (.own 2 k (pc os)::(dds 29 [])))) (ex := .ret) rfl rfl (Za.seq (Za.go (t:=(vp rs::(dds 1 (.own 2 0 []::(dds 29 []))))) Z8 400 [] [0,2] a0) (Za.seq (Za.go (t:=(vp rs::(dds 1 (.own 2 0 []::(.own 2 ts.length (pc ts)::(dds 28 [])))))) Z8 400 [.r (.fresh 2 ts.length (pc ts))] [0,2,3] (ac n1 a0)) (Za.seq (Za.go (t:=(vp rs::(dds 1 (.own 2 0 []::(.own 2 ts.length (pc ts)::(bN g::(dds 27 []))))))) Z8 400 [.r (Zp g)] [0,2,3,4] (ac n2 (ac n3 (ac n4 a0)))) (Za.seq (Za.seq (Za.go (t:=(vp rs::(dds 1 (.own 2 0 []::(.own 2 ts.length (pc ts)::(bN g::(dds 7 (.val (.bool (decide (b>1)))::(dds 19 []))))))))) Z8 400 [.r (.int .i64 b)] [0,2,3,4,12] (ac n5 a0)) (Za.cond_t (by rfl) c1 (Za.seq (Za.go Z8 400 [] [3,4,14,15] a0) (Za.block hl6)))) (Za.go Z8 400 [] [2] a0))))) (by intro i e;cases e) rfl
theorem Zjs (rs ts:List Rn) (g b:Int) (c1:(decide (b>1))=false) (n1:Zd Yir 92 [.sl rs.length (pc rs)] (.fresh 2 ts.length (pc ts))) (n2:List.all (pc ts) (fun c => !isI c)=true) (n3:Uv (Zp g)=true) (n4:Zd Yir 85 [.sl ts.length (pc ts)] (Zp g)) (n5:Zd Yir 77 [Zp g] (.int .i64 b)):Zd Yir 86 [.sl rs.length (pc rs)] (.fresh 2 ts.length (pc ts)):=Zd.of_bodyW (fn:=Zuh) (s:=(dds 2 (.own 2 ts.length (pc ts)::(dds 29 [])))) (ex := .ret) rfl rfl (Za.seq (Za.go (t:=(vp rs::(dds 1 (.own 2 0 []::(dds 29 []))))) Z8 400 [] [0,2] a0) (Za.seq (Za.go (t:=(vp rs::(dds 1 (.own 2 0 []::(.own 2 ts.length (pc ts)::(dds 28 [])))))) Z8 400 [.r (.fresh 2 ts.length (pc ts))] [0,2,3] (ac n1 a0)) (Za.seq (Za.go (t:=(vp rs::(dds 1 (.own 2 0 []::(.own 2 ts.length (pc ts)::(bN g::(dds 27 []))))))) Z8 400 [.r (Zp g)] [0,2,3,4] (ac n2 (ac n3 (ac n4 a0)))) (Za.seq (Za.seq (Za.go (t:=(vp rs::(dds 1 (.own 2 0 []::(.own 2 ts.length (pc ts)::(bN g::(dds 7 (.val (.bool (decide (b>1)))::(dds 19 []))))))))) Z8 400 [.r (.int .i64 b)] [0,2,3,4,12] (ac n5 a0)) (Za.cond_f (by rfl) c1 (Za.go (t:=(dds 2 (.own 2 0 []::(.own 2 ts.length (pc ts)::(dds 28 []))))) Z8 400 [] [2,3] a0))) (Za.go Z8 400 [] [2] a0))))) (by intro i e;cases e) rfl
theorem Zfj (rs ts:List Rn) (s:Int) (c1:(decide ((rs.length:Int)>0))=true) (c2:(decide (s<0))=true) (n1:0≤(i64.wrap ((rs.length:Int)-1))∧(i64.wrap ((rs.length:Int)-1))<(rs.length:Int)) (n2:Zd Yir 73 [Z5 (rs.getD (Int.toNat (i64.wrap ((rs.length:Int)-1))) z0)] (.int .i64 s)) (n3:Zd Yir 127 [.sl rs.length (pc rs)] (.fresh 2 ts.length (pc ts))):Zd Yir 115 [.sl rs.length (pc rs)] (.fresh 2 ts.length (pc ts)):=Zd.go (fn:=Rx) Z8 rfl 400 rfl [.b true, .v (Z5 (rs.getD (Int.toNat (i64.wrap ((rs.length:Int)-1))) z0)), .r (.int .i64 s), .b true, .r (.fresh 2 ts.length (pc ts))] (ac c1 (ac n1 (ac (J1 n1) (ac n2 (ac c2 (ac n3 a0))))))
theorem Zfi (rs:List Rn) (s:Int) (c1:(decide ((rs.length:Int)>0))=true) (c2:(decide (s<0))=false) (n1:0≤(i64.wrap ((rs.length:Int)-1))∧(i64.wrap ((rs.length:Int)-1))<(rs.length:Int)) (n2:Zd Yir 73 [Z5 (rs.getD (Int.toNat (i64.wrap ((rs.length:Int)-1))) z0)] (.int .i64 s)):Zd Yir 115 [.sl rs.length (pc rs)] (.sl rs.length (pc rs)):=Zd.go (fn:=Rx) Z8 rfl 400 rfl [.b true, .v (Z5 (rs.getD (Int.toNat (i64.wrap ((rs.length:Int)-1))) z0)), .r (.int .i64 s), .b false] (ac c1 (ac n1 (ac (J1 n1) (ac n2 (ac c2 a0)))))
theorem Zfh (rs:List Rn) (c1:(decide ((rs.length:Int)>0))=false):Zd Yir 115 [.sl rs.length (pc rs)] (.sl rs.length (pc rs)):=Zd.go (fn:=Rx) Z8 rfl 400 rfl [.b false, .b false] (ac c1 (ac (show false=false from rfl) a0))
def Zns (rs:List Rn) (k:Nat) (cs:List AV) (i:Int):Zk:=(.val (.sl rs.length (pc rs))::(dds 2 (.own 2 k cs::(.val (.int .i64 i)::(dds 18 [])))))
theorem Yk75_1 (rs:List Rn) (k:Nat) (cs:List AV) (i:Int) (d v:Int) (c1:(decide (i≤d))=true) (n1:0≤i∧i<(rs.length:Int)) (n2:k+1≤1048576) (n3:Zd Yir 62 [.sl rs.length (pc rs)] (.int .i64 d)) (n4:Zd Yir 94 [.int .i64 i] (Zp i)) (n5:Zd Yir 113 [Z5 (rs.getD (Int.toNat i) z0),Zp i] (Zp v)):Za Yir Yc75 (Zns rs k cs i) .norm (Zns rs (k+1) (cs++([.bool (decide (v<0)), .sl ((Zb (Int.natAbs v)).length) (lm (Zb (Int.natAbs v)))]:List AV)) (i64.wrap (i+1))):=(Za.go Z8 400 [.r (.int .i64 d), .b true, .v (Z5 (rs.getD (Int.toNat i) z0)), .r (Zp i), .r (Zp v)] [0,3,4] (ac n3 (ac c1 (ac n1 (ac (J1 n1) (ac n4 (ac n5 (ac (show List.length ([.bool (decide (v<0)), .sl ((Zb (Int.natAbs v)).length) (lm (Zb (Int.natAbs v)))]:List AV)=1*2 from rfl) (ac n2 a0)))))))))
theorem Yk75_2 (rs:List Rn) (k:Nat) (cs:List AV) (i:Int) (d:Int) (c1:(decide (i≤d))=false) (n1:Zd Yir 62 [.sl rs.length (pc rs)] (.int .i64 d)):Za Yir Yc75 (Zns rs k cs i) (.exit 0) (Zns rs k cs i):=(Za.go Z8 400 [.r (.int .i64 d), .b false] [0,3,4] (ac n1 (ac c1 a0)))
theorem Yrun75 (rs os ts:List Rn) (k:Nat) (i:Int) (hl1:Za Yir (.loop Yc75) (Zns rs 0 ([]:List AV) 1) (.exit 0) (Zns rs k (pc os) i)) (n2:Zd Yir 92 [.sl k (pc os)] (.fresh 2 ts.length (pc ts))):Zd Yir 75 [.sl rs.length (pc rs)] (.fresh 2 ts.length (pc ts)):=Zd.of_bodyW (fn:=Yi75) (s:=(dds 2 (.own 2 ts.length (pc ts)::(dds 20 [])))) (ex := .ret) rfl rfl (Za.seq (Za.go (t:=(vp rs::(dds 1 (.own 2 0 []::(dds 20 []))))) Z8 400 [] [0,2] a0) (Za.seq (Za.go (t:=(vp rs::(dds 1 (.own 2 0 []::(.own 2 0 []::(dds 19 [])))))) Z8 400 [] [0,2,3] a0) (Za.seq (Za.seq (Za.go Z8 400 [] [0,3,4] a0) (Za.block hl1)) (Za.go Z8 400 [.r (.fresh 2 ts.length (pc ts))] [2] (ac n2 a0))))) (by intro i e;cases e) rfl
def TRA:Js:=TQE
theorem Zg0:Qt Yir TRA:=Z8
end Go.Proofs.Ythnnfemologhfaa

namespace Go.Ai
open Go.IntKind (i64 u64 u32)
def Je:List Int→Nat
 | []=>0
 | x::xs=>Nat.gcd x.natAbs (Je xs)
theorem K4 (d:Nat):∀ xs:List Int,d∣Je xs↔∀ i,(d:Int)∣xs.getD i 0
 | []=>by simp[Je]
 | x::xs=>by
  have ih:=K4 d xs
  simp only[Je,Nat.dvd_gcd_iff,ih]
  constructor
  ·rintro⟨h1,h2⟩ i
   cases i with
   | zero=>simpa using Int.ofNat_dvd_left.2 h1
   | succ i=>simpa using h2 i
  ·intro h
   refine⟨Int.ofNat_dvd_left.1 (by simpa using h 0),fun i=>by simpa using h (i+1)⟩
theorem Vt (xs:List Int) (i:Nat):(Je xs:Int)∣xs.getD i 0:=(K4 _ xs).1 (Nat.dvd_refl _) i
theorem Nr {xs ys:List Int} (h:∀ i,xs.getD i 0=ys.getD i 0):Je xs=Je ys :=
 Nat.dvd_antisymm ((K4 _ _).2 fun i=>h i ▸ Vt xs i) ((K4 _ _).2 fun i=>h i ▸ Vt ys i)
theorem M5 (xs:List Int):Je (Ze xs)=Je xs:=Nr (Jg xs)
theorem Kn {xs:List Int}:Je xs=0↔∀ i,xs.getD i 0=0:=by
 constructor
 ·intro h i
  have:=Vt xs i
  rw[h] at this
  exact Int.zero_dvd.1 this
 ·intro h
  have:Je xs=Je []:=Nr fun i=>by rw[h i];simp
  rw[this];rfl
theorem K6 (k:Int):∀ xs:List Int,Je (Zu k xs)=k.natAbs*Je xs
 | []=>rfl
 | x::xs=>by
  have ih:=K6 k xs
  simp only[Zu,List.map_cons,Je] at *
  rw[ih,Int.natAbs_mul,Nat.gcd_mul_left]
theorem Xj {xs:List Int}:Ze xs=[]↔∀ i,xs.getD i 0=0:=by
 constructor
 ·intro h i
  rw[← Jg,h];simp
 ·intro h
  have:Ze xs=Ze []:=Kw fun i=>by rw[h i];simp
  rw[this];rfl
theorem K7 {xs:List Int} (h:Ze xs ≠ []):0<Je xs:=by
 rcases Nat.eq_zero_or_pos (Je xs) with g | g
 ·exact absurd (Xj.2 (Kn.1 g)) h
 ·exact g
theorem Vy {k:Int} (hk:k ≠ 0) (xs:List Int):Ze (Zu k xs)=Zu k (Ze xs):=by
 have e:∀ n,Zv (Zu k xs) n=Zv xs n:=by
  intro n
  induction n with
  | zero=>rfl
  | succ n ih =>
   simp only[Zv,ih,Z2]
   by_cases h:xs.getD n 0=0
   ·rw[h,Int.mul_zero]
   ·rw[if_neg h,if_neg (Int.mul_ne_zero hk h)]
 simp only[Ze]
 rw[e,show (Zu k xs).length=xs.length by simp[Zu]]
 simp[Zu,List.map_take]
def prim (xs:List Int):List Int:=(Ze xs).map fun x=>x / (Je xs:Int)
theorem Kl (xs:List Int) (i:Nat):(prim xs).getD i 0=xs.getD i 0 / (Je xs:Int):=by
 rw[← Jg xs i]
 simp only[prim,List.getD_eq_getElem?_getD,List.getElem?_map]
 cases (Ze xs)[i]? <;> simp
theorem Qx (xs:List Int):(prim xs).length=(Ze xs).length:=by simp [prim]
theorem Do (xs:List Int) (i:Nat):(Je xs:Int)*(prim xs).getD i 0=xs.getD i 0:=by
 rw[Kl];exact Int.mul_ediv_cancel' (Vt xs i)
theorem So {xs ys:List Int} (h:∀ i,xs.getD i 0=ys.getD i 0):prim xs=prim ys:=by
 simp only[prim];rw[Kw h,Nr h]
theorem Uf {xs:List Int}:prim xs=[]↔∀ i,xs.getD i 0=0:=by
 rw[← Xj];simp[prim]
theorem Zab {k:Int} (hk:0<k) (xs:List Int):prim (Zu k xs)=prim xs:=by
 simp only[prim]
 rw[Vy (by omega),K6]
 simp only[Zu,List.map_map]
 apply List.map_congr_left
 intro x _
 simp only[Function.comp]
 rw[Int.natCast_mul,Int.natAbs_of_nonneg (by omega),Int.mul_ediv_mul_of_pos _ _ hk]
theorem Pf {k:Int} (hk:0<k) {xs ys:List Int} (h:∀ i,ys.getD i 0=k*xs.getD i 0):prim ys=prim xs:=by
 rw[← Zab hk xs]
 exact So fun i=>by rw[h,Z2]
theorem Zb4 {xs:List Int} (h:Zv xs xs.length=xs.length):Ze xs=xs:=by simp [Ze,h]
def Ub (xs:List Int):Prop:=Ze xs=xs
theorem Kh (xs:List Int):Ub (Ze xs):=D3 xs
theorem Ut {xs:List Int} (h:Ub xs) (hn:xs ≠ []):xs.getD (xs.length-1) 0 ≠ 0:=by
 have e:=congrArg List.length h
 rw[Un] at e
 rcases Sb xs xs.length with g | g
 ·rw[g] at e
  exact absurd (List.eq_nil_of_length_eq_zero e.symm) hn
 ·rw[e] at g;exact g
theorem Nj {xs:List Int} (h:xs=[]∨xs.getD (xs.length-1) 0 ≠ 0):Ub xs:=by
 rcases h with rfl | h
 ·rfl
 ·cases hl:xs.length with
  | zero=>rw[List.eq_nil_of_length_eq_zero hl];rfl
  | succ n =>
   apply Zb4
   rw[hl]
   simp only[Zv]
   rw[if_neg (by rw[hl] at h;simpa using h)]
theorem Zah {k:Int} (hk:k ≠ 0) {xs:List Int} (h:Ub xs):Ub (Zu k xs):=by
 unfold Ub;rw[Vy hk,h]
theorem Fd (xs:List Int):Zu (Je xs) (prim xs)=Ze xs:=by
 apply K1
 ·simp[Zu,Qx]
 ·intro i
  rw[Z2,Do,Jg]
theorem Jl (xs:List Int):Ub (prim xs):=by
 by_cases h:Ze xs=[]
 ·rw[Uf.2 (Xj.1 h)];rfl
 ·have hc:=K7 h
  have h1:=Kh xs
  rw[← Fd] at h1
  unfold Ub at h1 ⊢
  rw[Vy (by omega)] at h1
  have hinj:∀ a b:List Int,Zu (Je xs) a=Zu (Je xs) b→a=b:=by
   intro a b hab
   have hl:=congrArg List.length hab
   simp only[Zu,List.length_map] at hl
   apply K1 hl
   intro i
   have:=congrArg (fun l:List Int=>l.getD i 0) hab
   simp only[Z2] at this
   exact Int.eq_of_mul_eq_mul_left (by omega) this
  exact hinj _ _ h1
theorem Ko {xs:List Int} (h:Ze xs ≠ []):Je (prim xs)=1:=by
 have hc:=K7 h
 have h1:=K6 (Je xs) (prim xs)
 rw[Fd,M5,Int.natAbs_natCast] at h1
 have h2:Je xs*1=Je xs*Je (prim xs):=by rw[Nat.mul_one];exact h1
 exact (Nat.eq_of_mul_eq_mul_left hc h2).symm
theorem Nb {xs:List Int} (h:Je xs=1):prim xs=Ze xs:=by
 simp only[prim,h]
 rw[show (fun x:Int=>x / ((1:Nat):Int))=id by funext x;simp]
 simp
theorem Ja (xs:List Int):prim (prim xs)=prim xs:=by
 by_cases h:Ze xs=[]
 ·rw[Uf.2 (Xj.1 h)];rfl
 ·rw[Nb (Ko h)];exact Jl xs
theorem Nm {K:Nat} {x:Int} (h:Jh K x) (c:Nat):Jh K (x / (c:Int))∨¬ (c:Int)∣x:=by
 by_cases hd:(c:Int)∣x
 ·left
  obtain⟨y,rfl⟩:=hd
  rcases Nat.eq_zero_or_pos c with h0 | h0
  ·subst h0;simpa using h
  ·rw[Int.mul_ediv_cancel_left _ (by omega)]
   unfold Jh at *
   rw[Int.natAbs_mul,Int.natAbs_natCast] at h
   have:=Nat.le_mul_of_pos_left y.natAbs h0
   omega
 ·exact Or.inr hd
theorem Zd2 {K:Nat} {xs:List Int} (h:∀ i,Jh K (xs.getD i 0)) (i:Nat):Jh K ((prim xs).getD i 0):=by
 rw[Kl]
 rcases Nm (h i) (Je xs) with g | g
 ·exact g
 ·exact absurd (Vt xs i) g
end Go.Ai
