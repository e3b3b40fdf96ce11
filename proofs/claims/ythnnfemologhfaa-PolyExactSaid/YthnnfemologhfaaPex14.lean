/- Texts of the proof of PolyExact, packed by pack.py: part 14 of 19. -/
import Derived.Test.YthnnfemologhfaaPex13
namespace Go.Proofs.Ythnnfemologhfaa
open Go.IntKind (i64 u64 u32)
open Go.Ai
set_option maxRecDepth 100000
def Ys113i (na:Bool) (nb:Bool) (la:Nat) (xa:List AV) (lb:Nat) (xb:List AV) (n:Nat) (cs:List AV) (i:Int) (x:Int) (c:Int) (k:Int):State:=(dds 4 (.box [.bool false, .sl 0 []]::(.val (.bool na)::(dds 1 (.val (.bool nb)::(.val (.sl lb xb)::(.own 1 n cs::(.val (.int .i64 i)::(.val (.int .u32 x)::(.val (.int .u64 c)::(dds 28 (.val (.sl la xa)::(.val (.int .i64 (la:Int))::(.val (.int .i64 i)::(dds 4 (.val (.sl lb xb)::(.val (.int .i64 (lb:Int))::(.val (.int .i64 k)::(dds 43 [])))))))))))))))))))
theorem Yk113i_1 (na:Bool) (nb:Bool) (la:Nat) (xa:List AV) (lb:Nat) (xb:List AV) (n:Nat) (cs:List AV) (i:Int) (x:Int) (c:Int) (k:Int) (ds:List AV) (y z:Int) (c1:(decide (k<(lb:Int)))=true) (n1:0≤k∧k<(lb:Int)) (n2:takeA (List.drop (Int.toNat k*1) xb) 0 1 true=some (.int .u32 y)) (n3:0≤(i64.wrap (i+k))∧(i64.wrap (i+k))<(n:Int)) (n4:takeA cs (Int.toNat (i64.wrap (i+k))*1) 1 true=some (.int .u32 z)) (n5:0≤(i64.wrap (i+k))∧(i64.wrap (i+k))<(n:Int)) (n6:layA cs (Int.toNat (i64.wrap (i+k))*1) [.int .u32 (u32.wrap (u64.wrap ((u64.wrap ((u64.wrap ((u64.wrap x)*(u64.wrap y)))+(u64.wrap z)))+c)))]=some ds):RunsW Yir Yc113i (Ys113i na nb la xa lb xb n cs i x c k) .norm (Ys113i na nb la xa lb xb n ds i x (Int.fdiv (u64.wrap ((u64.wrap ((u64.wrap ((u64.wrap x)*(u64.wrap y)))+(u64.wrap z)))+c)) (2^(min (Int.toNat 32) (IntKind.bits .u64)))) (i64.wrap (k+1))):=RunsW.script (ps:=[(decide (k<(lb:Int)))=true,0≤k∧k<(lb:Int),takeA (List.drop (Int.toNat k*1) xb) 0 1 true=some (.int .u32 y),0≤(i64.wrap (i+k))∧(i64.wrap (i+k))<(n:Int),takeA cs (Int.toNat (i64.wrap (i+k))*1) 1 true=some (.int .u32 z),¬ (32:Int)<0,0≤(i64.wrap (i+k))∧(i64.wrap (i+k))<(n:Int),layA cs (Int.toNat (i64.wrap (i+k))*1) [.int .u32 (u32.wrap (u64.wrap ((u64.wrap ((u64.wrap ((u64.wrap x)*(u64.wrap y)))+(u64.wrap z)))+c)))]=some ds]) TWB_holds 300 [.b true, .v (.int .u32 y), .v (.int .u32 z), .l ds] [4,5,7,8,9,10,11,12,41,42,43,48,49,50] (by kernel_rfl) ⟨c1,n1,n2,n3,n4,(by decide),n5,n6,trivial⟩
theorem Yk113i_2 (na:Bool) (nb:Bool) (la:Nat) (xa:List AV) (lb:Nat) (xb:List AV) (n:Nat) (cs:List AV) (i:Int) (x:Int) (c:Int) (k:Int) (c1:(decide (k<(lb:Int)))=false):RunsW Yir Yc113i (Ys113i na nb la xa lb xb n cs i x c k) (.exit 2) (Ys113i na nb la xa lb xb n cs i x c k):=RunsW.script (ps:=[(decide (k<(lb:Int)))=false]) TWB_holds 300 [.b false] [4,5,7,8,9,10,11,12,41,42,43,48,49,50] (by kernel_rfl) ⟨c1,trivial⟩
def Ys113 (na:Bool) (nb:Bool) (la:Nat) (xa:List AV) (lb:Nat) (xb:List AV) (n:Nat) (cs:List AV) (i:Int):State:=(dds 4 (.box [.bool false, .sl 0 []]::(.val (.bool na)::(dds 1 (.val (.bool nb)::(.val (.sl lb xb)::(.own 1 n cs::(dds 31 (.val (.sl la xa)::(.val (.int .i64 (la:Int))::(.val (.int .i64 i)::(dds 50 []))))))))))))
theorem Yko113_no (na nb:Bool) (la:Nat) (xa:List AV) (lb:Nat) (xb:List AV) (n:Nat) (cs:List AV) (i:Int) (h:(decide (i<(la:Int)))=false):RunsW Yir Yc113 (Ys113 na nb la xa lb xb n cs i) (.exit 0) (Ys113 na nb la xa lb xb n cs i):=RunsW.script (ps:=[(decide (i<(la:Int)))=false]) TWB_holds 300 [.b false] [4,5,7,8,9,41,42,43] (by kernel_rfl) ⟨h,trivial⟩
theorem Yko113_yes (na nb:Bool) (la:Nat) (xa:List AV) (lb:Nat) (xb:List AV) (n:Nat) (cs ds es:List AV) (i x c k:Int) (h:(decide (i<(la:Int)))=true) (hi:0≤i∧i<(la:Int)) (hx:takeA (List.drop (Int.toNat i*1) xa) 0 1 true=some (.int .u32 x)) (hl:RunsW Yir (.loop Yc113i) (Ys113i na nb la xa lb xb n cs i x 0 0) (.exit 2) (Ys113i na nb la xa lb xb n ds i x c k)) (hix:0≤i64.wrap (i+(lb:Int))∧i64.wrap (i+(lb:Int))<(n:Int)) (hst:layA ds (Int.toNat (i64.wrap (i+(lb:Int)))*1) [.int .u32 (u32.wrap c)]=some es):RunsW Yir Yc113 (Ys113 na nb la xa lb xb n cs i) .norm (Ys113 na nb la xa lb xb n es (i64.wrap (i+1))):=(RunsW.seq (RunsW.script (t:=(dds 4 (.box [.bool false, .sl 0 []]::(.val (.bool na)::(dds 1 (.val (.bool nb)::(.val (.sl lb xb)::(.own 1 n cs::(dds 31 (.val (.sl la xa)::(vi (la:Int)::(vi i::(.val (.bool (decide (i<(la:Int))))::(dds 49 [])))))))))))))) (ex := .norm) (ps:=[]) TWB_holds 300 [] [4,5,7,8,9,41,42,43,44] (by kernel_rfl) trivial) (RunsW.seq (RunsW.script (t:=(dds 4 (.box [.bool false, .sl 0 []]::(.val (.bool na)::(dds 1 (.val (.bool nb)::(.val (.sl lb xb)::(.own 1 n cs::(dds 31 (.val (.sl la xa)::(vi (la:Int)::(vi i::(.val (.bool (decide (i<(la:Int))))::(dds 49 [])))))))))))))) (ex := .norm) (ps:=[(decide (i<(la:Int)))=true]) TWB_holds 300 [.b true] [4,5,7,8,9,41,42,43,44] (by kernel_rfl) ⟨h,trivial⟩) (RunsW.seq (RunsW.block_norm (RunsW.seq (RunsW.script (t:=(dds 4 (.box [.bool false, .sl 0 []]::(.val (.bool na)::(dds 1 (.val (.bool nb)::(.val (.sl lb xb)::(.own 1 n cs::(vi i::(.val (.int .u32 x)::(dds 29 (.val (.sl la xa)::(vi (la:Int)::(vi i::(.val (.bool (decide (i<(la:Int))))::(vi i::(.mem (List.drop (Int.toNat i*1) xa)::(.val (.int .u32 x)::(dds 46 []))))))))))))))))))) (ex := .norm) (ps:=[0≤i∧i<(la:Int),takeA (List.drop (Int.toNat i*1) xa) 0 1 true=some (.int .u32 x)]) TWB_holds 300 [.v (.int .u32 x)] [4,5,7,8,9,10,11,41,42,43,44,45,46,47] (by kernel_rfl) ⟨hi,hx,trivial⟩) (RunsW.seq (RunsW.script (t:=(dds 4 (.box [.bool false, .sl 0 []]::(.val (.bool na)::(dds 1 (.val (.bool nb)::(.val (.sl lb xb)::(.own 1 n cs::(vi i::(.val (.int .u32 x)::(.val (.int .u64 0)::(dds 28 (.val (.sl la xa)::(vi (la:Int)::(vi i::(.val (.bool (decide (i<(la:Int))))::(vi i::(.mem (List.drop (Int.toNat i*1) xa)::(.val (.int .u32 x)::(dds 46 [])))))))))))))))))))) (ex := .norm) (ps:=[]) TWB_holds 300 [] [4,5,7,8,9,10,11,12,41,42,43,44,45,46,47] (by kernel_rfl) trivial) (RunsW.seq (RunsW.seq (RunsW.script (t:=(dds 4 (.box [.bool false, .sl 0 []]::(.val (.bool na)::(dds 1 (.val (.bool nb)::(.val (.sl lb xb)::(.own 1 n cs::(vi i::(.val (.int .u32 x)::(.val (.int .u64 0)::(dds 28 (.val (.sl la xa)::(vi (la:Int)::(vi i::(dds 4 (.val (.sl lb xb)::(vi (lb:Int)::(vi 0::(dds 43 [])))))))))))))))))))) (ex := .norm) (ps:=[]) TWB_holds 300 [] [4,5,7,8,9,10,11,12,41,42,43,48,49,50] (by kernel_rfl) trivial) (RunsW.block hl)) (RunsW.script (t:=(dds 4 (.box [.bool false, .sl 0 []]::(.val (.bool na)::(dds 1 (.val (.bool nb)::(.val (.sl lb xb)::(.own 1 n es::(vi i::(.val (.int .u32 x)::(.val (.int .u64 c)::(dds 28 (.val (.sl la xa)::(vi (la:Int)::(vi i::(dds 4 (.val (.sl lb xb)::(vi (lb:Int)::(vi k::(dds 29 (.dup 9::(vi i::(.val (.sl lb xb)::(vi (lb:Int)::(vi (i64.wrap (i+(lb:Int)))::(.val (.int .u64 c)::(.val (.int .u32 (u32.wrap c))::(.ptr 9 (Int.toNat (i64.wrap (i+(lb:Int)))*1)::(dds 6 []))))))))))))))))))))))))))))) (ex := .norm) (ps:=[0≤(i64.wrap (i+(lb:Int)))∧(i64.wrap (i+(lb:Int)))<(n:Int),layA ds (Int.toNat (i64.wrap (i+(lb:Int)))*1) [.int .u32 (u32.wrap c)]=some es]) TWB_holds 300 [.l es] [4,5,7,8,9,10,11,12,41,42,43,48,49,50,80,81,82,83,84,85,86,87] (by kernel_rfl) ⟨hix,hst,trivial⟩))))) (RunsW.script (t:=(dds 4 (.box [.bool false, .sl 0 []]::(.val (.bool na)::(dds 1 (.val (.bool nb)::(.val (.sl lb xb)::(.own 1 n es::(dds 31 (.val (.sl la xa)::(vi (la:Int)::(vi (i64.wrap (i+1))::(dds 50 []))))))))))))) (ex := .norm) (ps:=[]) TWB_holds 300 [] [4,5,7,8,9,41,42,43] (by kernel_rfl) trivial))))
theorem Yloop113i (na nb:Bool) (xs ys:List Int) (hx:U32 xs) (hy:U32 ys) (n i:Nat) (hn:n≤1048576) (hib:i+ys.length≤n):∀ (r k:Nat) (out:List Int) (c:Int),r+k=ys.length→out.length=n→U32 out→0≤c∧c<4294967296 →
  RunsW Yir (.loop Yc113i) (Ys113i na nb xs.length (lm xs) ys.length (lm ys) n (lm out) (i:Int) (xs.getD i 0) c (k:Int)) (.exit 2)
   (Ys113i na nb xs.length (lm xs) ys.length (lm ys) n (lm (innGo (xs.getD i 0) ys i r k out c).1) (i:Int) (xs.getD i 0) (innGo (xs.getD i 0) ys i r k out c).2 (ys.length:Int)):=by
 intro r
 induction r with
 | zero =>
  intro k out c hk _ _ _
  have hk':k=ys.length:=by omega
  subst hk'
  exact RunsW.loop_out (Yk113i_2 na nb xs.length (lm xs) ys.length (lm ys) n (lm out) (i:Int) (xs.getD i 0) c (ys.length:Int) (by simp)) (by intro e;cases e)
 | succ r ih =>
  intro k out c hk hl hu hc
  have hai:=getD_u32 hx i
  have hbk:=getD_u32 hy k
  have hok:=getD_u32 hu (i+k)
  obtain ⟨w1,w2,w3,w4⟩:=word_bd hai hbk hc hok
  have ei:i64.wrap ((i:Int)+(k:Int))=((i+k:Nat):Int):=by rw [w64 (by omega) (by omega)];omega
  have ek:i64.wrap ((k:Int)+1)=((k+1:Nat):Int):=by rw [w64 (by omega) (by omega)];omega
  have hz:=own_lim (xs:=out) (i:=i+k) (by omega)
  have hyk:=take_lim (xs:=ys) (i:=k) (by omega)
  have hst:=lay_lim (xs:=out) (i:=i+k) (v:=(c+(out.getD (i+k) 0+xs.getD i 0*ys.getD k 0)) % 4294967296) (by omega)
  have eW:u64.wrap (u64.wrap (u64.wrap (u64.wrap (xs.getD i 0)*u64.wrap (ys.getD k 0))+u64.wrap (out.getD (i+k) 0))+c)=c+(out.getD (i+k) 0+xs.getD i 0*ys.getD k 0):=by
   have q1:u64.wrap (xs.getD i 0)=xs.getD i 0:=by rw [wu64m];omega
   have q2:u64.wrap (ys.getD k 0)=ys.getD k 0:=by rw [wu64m];omega
   have q3:u64.wrap (out.getD (i+k) 0)=out.getD (i+k) 0:=by rw [wu64m];omega
   rw [q1,q2,q3,wu64m,wu64m,wu64m]
   omega
  have eS:Int.fdiv (c+(out.getD (i+k) 0+xs.getD i 0*ys.getD k 0)) (2^(min (Int.toNat 32) (IntKind.bits .u64)))=(c+(out.getD (i+k) 0+xs.getD i 0*ys.getD k 0)) / 4294967296:=by
   show Int.fdiv _ 4294967296=_
   rw [Int.fdiv_eq_ediv_of_nonneg _ (by omega)]
  have h1:=Yk113i_1 na nb xs.length (lm xs) ys.length (lm ys) n (lm out) (i:Int) (xs.getD i 0) c (k:Int) (lm (out.set (i+k) ((c+(out.getD (i+k) 0+xs.getD i 0*ys.getD k 0)) % 4294967296))) (ys.getD k 0) (out.getD (i+k) 0)
   (by simp;omega) (by omega) (by rw [Int.toNat_natCast];exact hyk) (by rw [ei];omega) (by rw [ei,Int.toNat_natCast];exact hz) (by rw [ei];omega) (by rw [ei,Int.toNat_natCast,eW,wu32];exact hst)
  rw [eW,eS,ek] at h1
  exact RunsW.loop h1 (ih (k+1) _ _ (by omega) (by simpa using hl) (u32_set hu (by omega)) (by omega))
theorem Yloop113 (na nb:Bool) (xs ys:List Int) (hx:U32 xs) (hy:U32 ys) (hN:xs.length+ys.length≤1048576):∀ (r i:Nat) (out:List Int),r+i=xs.length→out.length=xs.length+ys.length→U32 out→(∀ j,i+ys.length≤j→out.getD j 0=0) →
  ∃ out',out'.length=xs.length+ys.length∧U32 out'∧valL out'=valL out+4294967296^i*(valL (xs.drop i)*valL ys) ∧
   RunsW Yir (.loop Yc113) (Ys113 na nb xs.length (lm xs) ys.length (lm ys) (xs.length+ys.length) (lm out) (i:Int)) (.exit 0) (Ys113 na nb xs.length (lm xs) ys.length (lm ys) (xs.length+ys.length) (lm out') (xs.length:Int)):=by
 intro r
 induction r with
 | zero =>
  intro i out hi hl hu _
  have hi':i=xs.length:=by omega
  subst hi'
  refine ⟨out,hl,hu,by simp [valL],?_⟩
  exact RunsW.loop_out (Yko113_no na nb xs.length (lm xs) ys.length (lm ys) (xs.length+ys.length) (lm out) (xs.length:Int) (by simp)) (by intro e;cases e)
 | succ r ih =>
  intro i out hi hl hu hz
  have hai:=getD_u32 hx i
  have hlt:i<xs.length:=by omega
  have hin:=Yloop113i na nb xs ys hx hy (xs.length+ys.length) i hN (by omega) ys.length 0 out 0 (by omega) hl hu (by omega)
  obtain ⟨g1,g2,g3,g4,g5⟩:=innGo_ok (i:=i) hai hy ys.length 0 out 0 (by omega) (by omega) hu (by omega)
  generalize innGo (xs.getD i 0) ys i ys.length 0 out 0=q at *
  obtain ⟨ds,c⟩:=q
  dsimp only at g1 g2 g3 g4 g5 hin
  have ei:i64.wrap ((i:Int)+(ys.length:Int))=((i+ys.length:Nat):Int):=by rw [w64 (by omega) (by omega)];omega
  have ei1:i64.wrap ((i:Int)+1)=((i+1:Nat):Int):=by rw [w64 (by omega) (by omega)];omega
  have ec:u32.wrap c=c:=by rw [wu32];omega
  have hst:=lay_lim (xs:=ds) (i:=i+ys.length) (v:=c) (by omega)
  have hxi:=take_lim (xs:=xs) (i:=i) hlt
  have h1:=Yko113_yes na nb xs.length (lm xs) ys.length (lm ys) (xs.length+ys.length) (lm out) (lm ds) (lm (ds.set (i+ys.length) c)) (i:Int) (xs.getD i 0) c (ys.length:Int) (by simp;omega) (by omega) (by rw [Int.toNat_natCast];exact hxi) hin (by rw [ei];omega) (by rw [ei,Int.toNat_natCast,ec];exact hst)
  rw [ei1] at h1
  obtain ⟨out',k1,k2,k3,k4⟩:=ih (i+1) (ds.set (i+ys.length) c) (by omega) (by simp;omega) (u32_set g2 g3) (fun j hj=>by rw [getD_set_ne (by omega),g5 j (by omega),hz j (by omega)])
  refine ⟨out',k1,k2,?_,RunsW.loop h1 k4⟩
  have hv:valL (ds.set (i+ys.length) c)=valL out+4294967296^i*(xs.getD i 0*valL ys):=by
   rw [valL_set ds _ _ (by omega),g5 _ (Nat.le_refl _),hz _ (Nat.le_refl _)]
   simp only [Nat.add_zero,List.drop_zero,Int.zero_add,Int.sub_zero] at g4 ⊢
   exact g4
  have hd:valL (xs.drop i)=xs.getD i 0+4294967296*valL (xs.drop (i+1)):=drop_val xs i
  rw [k3,hv,hd,Int.pow_succ]
  generalize (4294967296:Int)^i=p at *
  generalize valL (xs.drop (i+1))=V at *
  grind
theorem Yrun113_a (na:Bool) (xs:List Int) (nb:Bool) (ys:List Int) (a b:Int) (h1:Runs Yir 122 [.agg [.bool na, .sl xs.length (lm xs)]] (.tup [.bool (decide (a<0)), .sl (limbs (Int.natAbs a)).length (lm (limbs (Int.natAbs a)))])) (h2:Runs Yir 122 [.agg [.bool nb, .sl ys.length (lm ys)]] (.tup [.bool (decide (b<0)), .sl (limbs (Int.natAbs b)).length (lm (limbs (Int.natAbs b)))])) (z:((((limbs (Int.natAbs a)).length:Nat):Int)==0)=true):Runs Yir 113 [.agg [.bool na, .sl xs.length (lm xs)], .agg [.bool nb, .sl ys.length (lm ys)]] (.agg [.bool false, .sl 0 []]):=Runs.script (ps:=[Runs Yir 122 [.agg [.bool na, .sl xs.length (lm xs)]] (.tup [.bool (decide (a<0)), .sl ((limbs (Int.natAbs a)).length) (lm (limbs (Int.natAbs a)))]),Runs Yir 122 [.agg [.bool nb, .sl ys.length (lm ys)]] (.tup [.bool (decide (b<0)), .sl ((limbs (Int.natAbs b)).length) (lm (limbs (Int.natAbs b)))]),((((limbs (Int.natAbs a)).length:Nat):Int)==0)=true,true=true]) TWB_holds rfl 300 rfl [.r (.tup [.bool (decide (a<0)), .sl ((limbs (Int.natAbs a)).length) (lm (limbs (Int.natAbs a)))]), .r (.tup [.bool (decide (b<0)), .sl ((limbs (Int.natAbs b)).length) (lm (limbs (Int.natAbs b)))]), .b true, .b true] (by kernel_rfl) ⟨h1,h2,z,rfl,trivial⟩
theorem Yrun113_b (na:Bool) (xs:List Int) (nb:Bool) (ys:List Int) (a b:Int) (h1:Runs Yir 122 [.agg [.bool na, .sl xs.length (lm xs)]] (.tup [.bool (decide (a<0)), .sl (limbs (Int.natAbs a)).length (lm (limbs (Int.natAbs a)))])) (h2:Runs Yir 122 [.agg [.bool nb, .sl ys.length (lm ys)]] (.tup [.bool (decide (b<0)), .sl (limbs (Int.natAbs b)).length (lm (limbs (Int.natAbs b)))])) (y:((((limbs (Int.natAbs a)).length:Nat):Int)==0)=false) (z:((((limbs (Int.natAbs b)).length:Nat):Int)==0)=true):Runs Yir 113 [.agg [.bool na, .sl xs.length (lm xs)], .agg [.bool nb, .sl ys.length (lm ys)]] (.agg [.bool false, .sl 0 []]):=Runs.script (ps:=[Runs Yir 122 [.agg [.bool na, .sl xs.length (lm xs)]] (.tup [.bool (decide (a<0)), .sl ((limbs (Int.natAbs a)).length) (lm (limbs (Int.natAbs a)))]),Runs Yir 122 [.agg [.bool nb, .sl ys.length (lm ys)]] (.tup [.bool (decide (b<0)), .sl ((limbs (Int.natAbs b)).length) (lm (limbs (Int.natAbs b)))]),((((limbs (Int.natAbs a)).length:Nat):Int)==0)=false,((((limbs (Int.natAbs b)).length:Nat):Int)==0)=true]) TWB_holds rfl 300 rfl [.r (.tup [.bool (decide (a<0)), .sl ((limbs (Int.natAbs a)).length) (lm (limbs (Int.natAbs a)))]), .r (.tup [.bool (decide (b<0)), .sl ((limbs (Int.natAbs b)).length) (lm (limbs (Int.natAbs b)))]), .b false, .b true] (by kernel_rfl) ⟨h1,h2,y,z,trivial⟩
theorem Yrun113_c (na:Bool) (xs:List Int) (nb:Bool) (ys:List Int) (a b:Int) (h1:Runs Yir 122 [.agg [.bool na, .sl xs.length (lm xs)]] (.tup [.bool (decide (a<0)), .sl (limbs (Int.natAbs a)).length (lm (limbs (Int.natAbs a)))])) (h2:Runs Yir 122 [.agg [.bool nb, .sl ys.length (lm ys)]] (.tup [.bool (decide (b<0)), .sl (limbs (Int.natAbs b)).length (lm (limbs (Int.natAbs b)))])) (out:List Int) (r:Int) (y:((((limbs (Int.natAbs a)).length:Nat):Int)==0)=false) (z:((((limbs (Int.natAbs b)).length:Nat):Int)==0)=false) (hmk:0≤i64.wrap ((((limbs (Int.natAbs a)).length:Nat):Int)+(((limbs (Int.natAbs b)).length:Nat):Int))∧i64.wrap ((((limbs (Int.natAbs a)).length:Nat):Int)+(((limbs (Int.natAbs b)).length:Nat):Int))≤1048576) (hl:RunsW Yir (.loop Yc113) (Ys113 (decide (a<0)) (decide (b<0)) (limbs (Int.natAbs a)).length (lm (limbs (Int.natAbs a))) (limbs (Int.natAbs b)).length (lm (limbs (Int.natAbs b))) (Int.toNat (i64.wrap ((((limbs (Int.natAbs a)).length:Nat):Int)+(((limbs (Int.natAbs b)).length:Nat):Int)))) (replA [.int .u32 0] (Int.toNat (i64.wrap ((((limbs (Int.natAbs a)).length:Nat):Int)+(((limbs (Int.natAbs b)).length:Nat):Int))))) 0) (.exit 0) (Ys113 (decide (a<0)) (decide (b<0)) (limbs (Int.natAbs a)).length (lm (limbs (Int.natAbs a))) (limbs (Int.natAbs b)).length (lm (limbs (Int.natAbs b))) (Int.toNat (i64.wrap ((((limbs (Int.natAbs a)).length:Nat):Int)+(((limbs (Int.natAbs b)).length:Nat):Int)))) (lm out) (((limbs (Int.natAbs a)).length:Nat):Int))) (h3:Runs Yir 133 [.bool (!((decide (a<0))==(decide (b<0)))), .sl (Int.toNat (i64.wrap ((((limbs (Int.natAbs a)).length:Nat):Int)+(((limbs (Int.natAbs b)).length:Nat):Int)))) (lm out)] (.agg [.bool (decide (r<0)), .sl ((limbs (Int.natAbs r)).length) (lm (limbs (Int.natAbs r)))])):Runs Yir 113 [.agg [.bool na, .sl xs.length (lm xs)], .agg [.bool nb, .sl ys.length (lm ys)]] (.agg [.bool (decide (r<0)), .sl ((limbs (Int.natAbs r)).length) (lm (limbs (Int.natAbs r)))]):=Runs.of_bodyW (fn:=Yi113) (s:=(dds 4 (.box [.bool (decide (r<0)), .sl ((limbs (Int.natAbs r)).length) (lm (limbs (Int.natAbs r)))]::(.val (.bool (decide (a<0)))::(dds 1 (.val (.bool (decide (b<0)))::(.val (.sl ((limbs (Int.natAbs b)).length) (lm (limbs (Int.natAbs b))))::(.val (.sl (Int.toNat (i64.wrap ((((limbs (Int.natAbs a)).length:Nat):Int)+(((limbs (Int.natAbs b)).length:Nat):Int)))) (lm out))::(dds 31 (.val (.sl ((limbs (Int.natAbs a)).length) (lm (limbs (Int.natAbs a))))::(.val (.int .i64 (((limbs (Int.natAbs a)).length:Nat):Int))::(.val (.int .i64 (((limbs (Int.natAbs a)).length:Nat):Int))::(dds 45 (.val (.bool (decide (a<0)))::(.val (.bool (decide (b<0)))::(.val (.bool (!((decide (a<0))==(decide (b<0)))))::(.val (.sl (Int.toNat (i64.wrap ((((limbs (Int.natAbs a)).length:Nat):Int)+(((limbs (Int.natAbs b)).length:Nat):Int)))) (lm out))::(.val (.agg [.bool (decide (r<0)), .sl ((limbs (Int.natAbs r)).length) (lm (limbs (Int.natAbs r)))])::[])))))))))))))))))) (ex := .ret) rfl rfl (RunsW.seq (RunsW.script (t:=(.val (.agg [.bool na, .sl xs.length (lm xs)])::(.val (.agg [.bool nb, .sl ys.length (lm ys)])::(.box [.bool na, .sl xs.length (lm xs)]::(.box [.bool nb, .sl ys.length (lm ys)]::(.box [.bool false, .sl 0 []]::(dds 89 []))))))) (ex := .norm) (ps:=[]) TWB_holds 300 [] [0,1,2,3,4] (by kernel_rfl) trivial) (RunsW.seq (RunsW.script (t:=(.val (.agg [.bool na, .sl xs.length (lm xs)])::(.val (.agg [.bool nb, .sl ys.length (lm ys)])::(.box [.bool na, .sl xs.length (lm xs)]::(.box [.bool nb, .sl ys.length (lm ys)]::(.box [.bool false, .sl 0 []]::(.val (.bool (decide (a<0)))::(.val (.sl ((limbs (Int.natAbs a)).length) (lm (limbs (Int.natAbs a))))::(dds 9 (.val (.tup [.bool (decide (a<0)), .sl ((limbs (Int.natAbs a)).length) (lm (limbs (Int.natAbs a)))])::(.val (.agg [.bool na, .sl xs.length (lm xs)])::(.val (.tup [.bool (decide (a<0)), .sl ((limbs (Int.natAbs a)).length) (lm (limbs (Int.natAbs a)))])::(.val (.bool (decide (a<0)))::(.val (.sl ((limbs (Int.natAbs a)).length) (lm (limbs (Int.natAbs a))))::(dds 73 []))))))))))))))) (ex := .norm) (ps:=[Runs Yir 122 [.agg [.bool na, .sl xs.length (lm xs)]] (.tup [.bool (decide (a<0)), .sl ((limbs (Int.natAbs a)).length) (lm (limbs (Int.natAbs a)))])]) TWB_holds 300 [.r (.tup [.bool (decide (a<0)), .sl ((limbs (Int.natAbs a)).length) (lm (limbs (Int.natAbs a)))])] [0,1,2,3,4,5,6,16,17,18,19,20] (by kernel_rfl) ⟨h1,trivial⟩) (RunsW.seq (RunsW.script (t:=(.val (.agg [.bool na, .sl xs.length (lm xs)])::(.val (.agg [.bool nb, .sl ys.length (lm ys)])::(.box [.bool na, .sl xs.length (lm xs)]::(.box [.bool nb, .sl ys.length (lm ys)]::(.box [.bool false, .sl 0 []]::(.val (.bool (decide (a<0)))::(.val (.sl ((limbs (Int.natAbs a)).length) (lm (limbs (Int.natAbs a))))::(.val (.bool (decide (b<0)))::(.val (.sl ((limbs (Int.natAbs b)).length) (lm (limbs (Int.natAbs b))))::(dds 7 (.val (.tup [.bool (decide (a<0)), .sl ((limbs (Int.natAbs a)).length) (lm (limbs (Int.natAbs a)))])::(.val (.agg [.bool na, .sl xs.length (lm xs)])::(.val (.tup [.bool (decide (a<0)), .sl ((limbs (Int.natAbs a)).length) (lm (limbs (Int.natAbs a)))])::(.val (.bool (decide (a<0)))::(.val (.sl ((limbs (Int.natAbs a)).length) (lm (limbs (Int.natAbs a))))::(.val (.tup [.bool (decide (b<0)), .sl ((limbs (Int.natAbs b)).length) (lm (limbs (Int.natAbs b)))])::(.val (.agg [.bool nb, .sl ys.length (lm ys)])::(.val (.tup [.bool (decide (b<0)), .sl ((limbs (Int.natAbs b)).length) (lm (limbs (Int.natAbs b)))])::(.val (.bool (decide (b<0)))::(.val (.sl ((limbs (Int.natAbs b)).length) (lm (limbs (Int.natAbs b))))::(dds 68 [])))))))))))))))))))))) (ex := .norm) (ps:=[Runs Yir 122 [.agg [.bool nb, .sl ys.length (lm ys)]] (.tup [.bool (decide (b<0)), .sl ((limbs (Int.natAbs b)).length) (lm (limbs (Int.natAbs b)))])]) TWB_holds 300 [.r (.tup [.bool (decide (b<0)), .sl ((limbs (Int.natAbs b)).length) (lm (limbs (Int.natAbs b)))])] [0,1,2,3,4,5,6,7,8,16,17,18,19,20,21,22,23,24,25] (by kernel_rfl) ⟨h2,trivial⟩) (RunsW.seq (RunsW.script (t:=(.val (.agg [.bool na, .sl xs.length (lm xs)])::(.val (.agg [.bool nb, .sl ys.length (lm ys)])::(.box [.bool na, .sl xs.length (lm xs)]::(.box [.bool nb, .sl ys.length (lm ys)]::(.box [.bool false, .sl 0 []]::(.val (.bool (decide (a<0)))::(.val (.sl ((limbs (Int.natAbs a)).length) (lm (limbs (Int.natAbs a))))::(.val (.bool (decide (b<0)))::(.val (.sl ((limbs (Int.natAbs b)).length) (lm (limbs (Int.natAbs b))))::(dds 7 (.val (.tup [.bool (decide (a<0)), .sl ((limbs (Int.natAbs a)).length) (lm (limbs (Int.natAbs a)))])::(.val (.agg [.bool na, .sl xs.length (lm xs)])::(.val (.tup [.bool (decide (a<0)), .sl ((limbs (Int.natAbs a)).length) (lm (limbs (Int.natAbs a)))])::(.val (.bool (decide (a<0)))::(.val (.sl ((limbs (Int.natAbs a)).length) (lm (limbs (Int.natAbs a))))::(.val (.tup [.bool (decide (b<0)), .sl ((limbs (Int.natAbs b)).length) (lm (limbs (Int.natAbs b)))])::(.val (.agg [.bool nb, .sl ys.length (lm ys)])::(.val (.tup [.bool (decide (b<0)), .sl ((limbs (Int.natAbs b)).length) (lm (limbs (Int.natAbs b)))])::(.val (.bool (decide (b<0)))::(.val (.sl ((limbs (Int.natAbs b)).length) (lm (limbs (Int.natAbs b))))::(.val (.sl ((limbs (Int.natAbs a)).length) (lm (limbs (Int.natAbs a))))::(vi (((limbs (Int.natAbs a)).length:Nat):Int)::(.val (.bool ((((limbs (Int.natAbs a)).length:Nat):Int)==0))::(.val (.bool ((((limbs (Int.natAbs a)).length:Nat):Int)==0))::(.val (.sl ((limbs (Int.natAbs b)).length) (lm (limbs (Int.natAbs b))))::(vi (((limbs (Int.natAbs b)).length:Nat):Int)::(.val (.bool ((((limbs (Int.natAbs b)).length:Nat):Int)==0))::(.val (.bool ((((limbs (Int.natAbs b)).length:Nat):Int)==0))::(dds 60 [])))))))))))))))))))))))))))))) (ex := .norm) (ps:=[((((limbs (Int.natAbs a)).length:Nat):Int)==0)=false,((((limbs (Int.natAbs b)).length:Nat):Int)==0)=false]) TWB_holds 300 [.b false, .b false] [0,1,2,3,4,5,6,7,8,16,17,18,19,20,21,22,23,24,25,26,27,28,29,30,31,32,33] (by kernel_rfl) ⟨y,z,trivial⟩) (RunsW.seq (RunsW.script (t:=(.val (.agg [.bool na, .sl xs.length (lm xs)])::(.val (.agg [.bool nb, .sl ys.length (lm ys)])::(.box [.bool na, .sl xs.length (lm xs)]::(.box [.bool nb, .sl ys.length (lm ys)]::(.box [.bool false, .sl 0 []]::(.val (.bool (decide (a<0)))::(.val (.sl ((limbs (Int.natAbs a)).length) (lm (limbs (Int.natAbs a))))::(.val (.bool (decide (b<0)))::(.val (.sl ((limbs (Int.natAbs b)).length) (lm (limbs (Int.natAbs b))))::(.own 1 (Int.toNat (i64.wrap ((((limbs (Int.natAbs a)).length:Nat):Int)+(((limbs (Int.natAbs b)).length:Nat):Int)))) (replA [.int .u32 0] (Int.toNat (i64.wrap ((((limbs (Int.natAbs a)).length:Nat):Int)+(((limbs (Int.natAbs b)).length:Nat):Int)))))::(dds 6 (.val (.tup [.bool (decide (a<0)), .sl ((limbs (Int.natAbs a)).length) (lm (limbs (Int.natAbs a)))])::(.val (.agg [.bool na, .sl xs.length (lm xs)])::(.val (.tup [.bool (decide (a<0)), .sl ((limbs (Int.natAbs a)).length) (lm (limbs (Int.natAbs a)))])::(.val (.bool (decide (a<0)))::(.val (.sl ((limbs (Int.natAbs a)).length) (lm (limbs (Int.natAbs a))))::(.val (.tup [.bool (decide (b<0)), .sl ((limbs (Int.natAbs b)).length) (lm (limbs (Int.natAbs b)))])::(.val (.agg [.bool nb, .sl ys.length (lm ys)])::(.val (.tup [.bool (decide (b<0)), .sl ((limbs (Int.natAbs b)).length) (lm (limbs (Int.natAbs b)))])::(.val (.bool (decide (b<0)))::(.val (.sl ((limbs (Int.natAbs b)).length) (lm (limbs (Int.natAbs b))))::(.val (.sl ((limbs (Int.natAbs a)).length) (lm (limbs (Int.natAbs a))))::(vi (((limbs (Int.natAbs a)).length:Nat):Int)::(.val (.bool ((((limbs (Int.natAbs a)).length:Nat):Int)==0))::(.val (.bool ((((limbs (Int.natAbs a)).length:Nat):Int)==0))::(.val (.sl ((limbs (Int.natAbs b)).length) (lm (limbs (Int.natAbs b))))::(vi (((limbs (Int.natAbs b)).length:Nat):Int)::(.val (.bool ((((limbs (Int.natAbs b)).length:Nat):Int)==0))::(.val (.bool ((((limbs (Int.natAbs b)).length:Nat):Int)==0))::(dds 1 (.val (.sl ((limbs (Int.natAbs a)).length) (lm (limbs (Int.natAbs a))))::(vi (((limbs (Int.natAbs a)).length:Nat):Int)::(.val (.sl ((limbs (Int.natAbs b)).length) (lm (limbs (Int.natAbs b))))::(vi (((limbs (Int.natAbs b)).length:Nat):Int)::(vi (i64.wrap ((((limbs (Int.natAbs a)).length:Nat):Int)+(((limbs (Int.natAbs b)).length:Nat):Int)))::(dds 54 []))))))))))))))))))))))))))))))))))))) (ex := .norm) (ps:=[0≤(i64.wrap ((((limbs (Int.natAbs a)).length:Nat):Int)+(((limbs (Int.natAbs b)).length:Nat):Int)))∧(i64.wrap ((((limbs (Int.natAbs a)).length:Nat):Int)+(((limbs (Int.natAbs b)).length:Nat):Int)))≤1048576]) TWB_holds 300 [] ((0)::(1)::(2)::(3)::(4)::(5)::(6)::(7)::(8)::(9)::(16)::(17)::(18)::(19)::(20)::(21)::(22)::(23)::(24)::(25)::(26)::(27)::(28)::(29)::(30)::(31)::(32)::(33)::(35)::(36)::(37)::(38)::(39)::[]) (by kernel_rfl) ⟨hmk,trivial⟩) (RunsW.seq (RunsW.seq (RunsW.script (t:=(dds 4 (.box [.bool false, .sl 0 []]::(.val (.bool (decide (a<0)))::(dds 1 (.val (.bool (decide (b<0)))::(.val (.sl ((limbs (Int.natAbs b)).length) (lm (limbs (Int.natAbs b))))::(.own 1 (Int.toNat (i64.wrap ((((limbs (Int.natAbs a)).length:Nat):Int)+(((limbs (Int.natAbs b)).length:Nat):Int)))) (replA [.int .u32 0] (Int.toNat (i64.wrap ((((limbs (Int.natAbs a)).length:Nat):Int)+(((limbs (Int.natAbs b)).length:Nat):Int)))))::(dds 31 (.val (.sl ((limbs (Int.natAbs a)).length) (lm (limbs (Int.natAbs a))))::(vi (((limbs (Int.natAbs a)).length:Nat):Int)::(vi 0::(dds 50 []))))))))))))) (ex := .norm) (ps:=[]) TWB_holds 300 [] [4,5,7,8,9,41,42,43] (by kernel_rfl) trivial) (RunsW.block hl)) (RunsW.script (t:=(dds 4 (bN r::(.val (.bool (decide (a<0)))::(dds 1 (.val (.bool (decide (b<0)))::(.val (.sl ((limbs (Int.natAbs b)).length) (lm (limbs (Int.natAbs b))))::(.val (.sl (Int.toNat (i64.wrap ((((limbs (Int.natAbs a)).length:Nat):Int)+(((limbs (Int.natAbs b)).length:Nat):Int)))) (lm out))::(dds 31 (.val (.sl ((limbs (Int.natAbs a)).length) (lm (limbs (Int.natAbs a))))::(vi (((limbs (Int.natAbs a)).length:Nat):Int)::(vi (((limbs (Int.natAbs a)).length:Nat):Int)::(dds 45 (.val (.bool (decide (a<0)))::(.val (.bool (decide (b<0)))::(.val (.bool (!((decide (a<0))==(decide (b<0)))))::(.val (.sl (Int.toNat (i64.wrap ((((limbs (Int.natAbs a)).length:Nat):Int)+(((limbs (Int.natAbs b)).length:Nat):Int)))) (lm out))::(.val (.agg [.bool (decide (r<0)), .sl ((limbs (Int.natAbs r)).length) (lm (limbs (Int.natAbs r)))])::[])))))))))))))))))) (ex := .ret) (ps:=[Runs Yir 133 [.bool (!((decide (a<0))==(decide (b<0)))), .sl (Int.toNat (i64.wrap ((((limbs (Int.natAbs a)).length:Nat):Int)+(((limbs (Int.natAbs b)).length:Nat):Int)))) (lm out)] (.agg [.bool (decide (r<0)), .sl ((limbs (Int.natAbs r)).length) (lm (limbs (Int.natAbs r)))])]) TWB_holds 300 [.r (.agg [.bool (decide (r<0)), .sl ((limbs (Int.natAbs r)).length) (lm (limbs (Int.natAbs r)))])] [4,5,7,8,9,41,42,43,89,90,91,92,93] (by kernel_rfl) ⟨h3,trivial⟩))))))) (by intro i e;cases e) rfl
theorem rv_times (a b:Int) (zs:List Int) (h:valL zs=(a.natAbs:Int)*(b.natAbs:Int)):rv (!(decide (a<0)==decide (b<0))) zs=a*b:=by
 unfold rv
 rw [h]
 by_cases g1:a<0 <;> by_cases g2:b<0
 ·have e1:(a.natAbs:Int) = -a:=by omega
  have e2:(b.natAbs:Int) = -b:=by omega
  rw [e1,e2];simp [g1,g2] <;> grind
 ·have e1:(a.natAbs:Int) = -a:=by omega
  have e2:(b.natAbs:Int)=b:=by omega
  rw [e1,e2];simp [g1,g2] <;> grind
 ·have e1:(a.natAbs:Int)=a:=by omega
  have e2:(b.natAbs:Int) = -b:=by omega
  rw [e1,e2];simp [g1,g2] <;> grind
 ·have e1:(a.natAbs:Int)=a:=by omega
  have e2:(b.natAbs:Int)=b:=by omega
  rw [e1,e2];simp [g1,g2]
theorem wmul_run {na nb:Bool} {xs ys:List Int} (hx:U32 xs) (hy:U32 ys) (hN:xs.length+ys.length≤1048576):Runs Yir 113 [.agg [.bool na, .sl xs.length (lm xs)], .agg [.bool nb, .sl ys.length (lm ys)]] (bigAV (rv na xs*rv nb ys)):=by
 have l1:=rv_len (neg:=na) hx
 have l2:=rv_len (neg:=nb) hy
 have k1:=limbs_run (neg:=na) hx (by omega)
 have k2:=limbs_run (neg:=nb) hy (by omega)
 generalize rv na xs=a at *
 generalize rv nb ys=b at *
 have z1:=limbs_zero_len a.natAbs
 have z2:=limbs_zero_len b.natAbs
 by_cases ha:a=0
 ·have h:=Yrun113_a na xs nb ys a b k1 k2 (by rw [beq_iff_eq];omega)
  rw [ha,Int.zero_mul]
  exact h
 by_cases hb:b=0
 ·have h:=Yrun113_b na xs nb ys a b k1 k2 (by rw [beq_eq_false_iff_ne];omega) (by rw [beq_iff_eq];omega)
  rw [hb,Int.mul_zero]
  exact h
 have e1:i64.wrap ((((limbs (Int.natAbs a)).length:Nat):Int)+(((limbs (Int.natAbs b)).length:Nat):Int))=(((limbs (Int.natAbs a)).length+(limbs (Int.natAbs b)).length:Nat):Int):=by rw [w64 (by omega) (by omega)];omega
 have e2:(Int.toNat (i64.wrap ((((limbs (Int.natAbs a)).length:Nat):Int)+(((limbs (Int.natAbs b)).length:Nat):Int))))=(limbs (Int.natAbs a)).length+(limbs (Int.natAbs b)).length:=by rw [e1,Int.toNat_natCast]
 obtain ⟨out,o1,o2,o3,o4⟩:=Yloop113 (decide (a<0)) (decide (b<0)) (limbs (Int.natAbs a)) (limbs (Int.natAbs b)) (big_u32 _) (big_u32 _) (by omega) (limbs (Int.natAbs a)).length 0 (List.replicate ((limbs (Int.natAbs a)).length+(limbs (Int.natAbs b)).length) 0) (by omega) (by simp) (u32_zeros _) (fun j _=>getD_zeros _ j)
 have hv:valL out=(a.natAbs:Int)*(b.natAbs:Int):=by rw [o3,valL_zeros];simp [limbs_val]
 have h3:=made_run (neg := !(decide (a<0)==decide (b<0))) o2 (by omega)
 rw [rv_times a b out hv,o1] at h3
 exact Yrun113_c na xs nb ys a b k1 k2 out _ (by rw [beq_eq_false_iff_ne];omega) (by rw [beq_eq_false_iff_ne];omega) (by rw [e1];omega) (by rw [e2,repl_lim];exact o4) (by rw [e2];exact h3)
def TWC:Table:=TWB
theorem TWC_holds:THolds Yir TWC:=TWB_holds
end Go.Proofs.Ythnnfemologhfaa

namespace Go.Proofs.Ythnnfemologhfaa
open Go.IntKind (i64 u64 u32)
open Go.Ai
set_option maxRecDepth 100000
def Ys62 (N:Nat) (cs:List AV) (i:Int):State:=(.val (.sl N cs)::(dds 1 (.val (.int .i64 0)::(.val (.int .i64 i)::(dds 16 [])))))
theorem Yk62_1 (N:Nat) (cs:List AV) (i:Int) (r:Rn) (v:Int) (c1:(decide (i≥0))=true) (c2:(v==0)=true) (n1:0≤i∧i<(N:Int)) (n2:takeA (List.drop (Int.toNat i*2) cs) 0 2 false=some (.agg [.bool r.1, .sl r.2.length (lm r.2)])) (n3:Runs Yir 73 [.agg [.bool r.1, .sl r.2.length (lm r.2)]] (.int .i64 v)):RunsW Yir Yc62 (Ys62 N cs i) .norm (Ys62 N cs (i64.wrap (i-1))):=RunsW.script (ps:=[(decide (i≥0))=true,0≤i∧i<(N:Int),takeA (List.drop (Int.toNat i*2) cs) 0 2 false=some (.agg [.bool r.1, .sl r.2.length (lm r.2)]),Runs Yir 73 [.agg [.bool r.1, .sl r.2.length (lm r.2)]] (.int .i64 v),(v==0)=true]) TWC_holds 300 [.b true, .v (.agg [.bool r.1, .sl r.2.length (lm r.2)]), .r (.int .i64 v), .b true] [0,2,3] (by kernel_rfl) ⟨c1,n1,n2,n3,c2,trivial⟩
theorem Yk62_2 (N:Nat) (cs:List AV) (i:Int) (r:Rn) (v:Int) (c1:(decide (i≥0))=true) (c2:(v==0)=false) (n1:0≤i∧i<(N:Int)) (n2:takeA (List.drop (Int.toNat i*2) cs) 0 2 false=some (.agg [.bool r.1, .sl r.2.length (lm r.2)])) (n3:Runs Yir 73 [.agg [.bool r.1, .sl r.2.length (lm r.2)]] (.int .i64 v)):RunsW Yir Yc62 (Ys62 N cs i) (.exit 0) (Ys62 N cs i):=RunsW.script (ps:=[(decide (i≥0))=true,0≤i∧i<(N:Int),takeA (List.drop (Int.toNat i*2) cs) 0 2 false=some (.agg [.bool r.1, .sl r.2.length (lm r.2)]),Runs Yir 73 [.agg [.bool r.1, .sl r.2.length (lm r.2)]] (.int .i64 v),(v==0)=false]) TWC_holds 300 [.b true, .v (.agg [.bool r.1, .sl r.2.length (lm r.2)]), .r (.int .i64 v), .b false] [0,2,3] (by kernel_rfl) ⟨c1,n1,n2,n3,c2,trivial⟩
theorem Yk62_3 (N:Nat) (cs:List AV) (i:Int) (c1:(decide (i≥0))=false):RunsW Yir Yc62 (Ys62 N cs i) (.exit 0) (Ys62 N cs i):=RunsW.script (ps:=[(decide (i≥0))=false,false=false]) TWC_holds 300 [.b false, .b false] [0,2,3] (by kernel_rfl) ⟨c1,rfl,trivial⟩
theorem sgn_zero {n:Int}:sgnI n=0↔n=0:=by unfold sgnI;split <;> (try split) <;> omega
theorem Yloop62 (rs:List Rn) (hg:∀ r∈rs,Good 1048576 r) (hN:rs.length≤1048576):∀ m,m≤rs.length→RunsW Yir (.loop Yc62) (Ys62 rs.length (pc rs) ((m:Int)-1)) (.exit 0) (Ys62 rs.length (pc rs) (((topN (vals rs) m:Nat):Int)-1)):=by
 intro m
 induction m with
 | zero =>
  intro _
  exact RunsW.loop_out (Yk62_3 rs.length (pc rs) (((0:Nat):Int)-1) (by simp)) (by intro e;cases e)
 | succ m ih =>
  intro hm
  have e0:((m+1:Nat):Int)-1=(m:Int):=by omega
  have e1:i64.wrap ((m:Int)-1)=(m:Int)-1:=w64 (by omega) (by omega)
  have hx:=take_pc (rs:=rs) (i:=m) (by omega)
  have gm:=good_getD hg m
  have hs:=wsign_run (neg:=(rs.getD m z0).1) gm.1 gm.2
  rw [e0]
  simp only [topN]
  rw [vals_getD]
  by_cases h0:rval (rs.getD m z0)=0
  ·rw [if_pos h0]
   have h1:=Yk62_1 rs.length (pc rs) (m:Int) (rs.getD m z0) (sgnI (rval (rs.getD m z0))) (by simp) (by rw [beq_iff_eq];exact sgn_zero.2 h0) (by omega) (by rw [Int.toNat_natCast];exact hx) hs
   rw [e1] at h1
   exact RunsW.loop h1 (ih (by omega))
  ·rw [if_neg h0,e0]
   exact RunsW.loop_out (Yk62_2 rs.length (pc rs) (m:Int) (rs.getD m z0) (sgnI (rval (rs.getD m z0))) (by simp) (by rw [beq_eq_false_iff_ne];exact fun h=>h0 (sgn_zero.1 h)) (by omega) (by rw [Int.toNat_natCast];exact hx) hs) (by intro e;cases e)
theorem degree_run {rs:List Rn} (hg:∀ r∈rs,Good 1048576 r) (hN:rs.length≤1048576):Runs Yir 62 [.sl rs.length (pc rs)] (.int .i64 (((topN (vals rs) rs.length:Nat):Int)-1)):=by
 have e1:i64.wrap ((rs.length:Int)-1)=(rs.length:Int)-1:=w64 (by omega) (by omega)
 have hl:RunsW Yir (.loop Yc62) (Ys62 rs.length (pc rs) (i64.wrap ((rs.length:Int)-1))) (.exit 0) (Ys62 rs.length (pc rs) (((topN (vals rs) rs.length:Nat):Int)-1)):=by
  rw [e1];exact Yloop62 rs hg hN rs.length (Nat.le_refl _)
 exact Runs.of_bodyW (fn:=Yi62) (s:=(.val (.sl rs.length (pc rs))::(dds 1 (.val (.int .i64 (((topN (vals rs) rs.length:Nat):Int)-1))::(.val (.int .i64 (((topN (vals rs) rs.length:Nat):Int)-1))::(dds 15 (.val (.int .i64 (((topN (vals rs) rs.length:Nat):Int)-1))::[]))))))) (ex := .ret) rfl rfl
  (RunsW.seq (RunsW.script (t:=(.val (.sl rs.length (pc rs))::(dds 1 (.val (.int .i64 0)::(dds 17 []))))) (ex := .norm) (ps:=[]) TWC_holds 300 [] [0,2] (by kernel_rfl) trivial)
  (RunsW.seq (RunsW.script (t:=(.val (.sl rs.length (pc rs))::(dds 1 (.val (.int .i64 0)::(.val (.int .i64 (i64.wrap ((rs.length:Int)-1)))::(dds 16 [])))))) (ex := .norm) (ps:=[]) TWC_holds 300 [] [0,2,3] (by kernel_rfl) trivial)
  (RunsW.seq (RunsW.block hl)
  (RunsW.script (t:=(.val (.sl rs.length (pc rs))::(dds 1 (.val (.int .i64 (((topN (vals rs) rs.length:Nat):Int)-1))::(.val (.int .i64 (((topN (vals rs) rs.length:Nat):Int)-1))::(dds 15 (.val (.int .i64 (((topN (vals rs) rs.length:Nat):Int)-1))::[]))))))) (ex := .ret) (ps:=[]) TWC_holds 300 [] [0,2,3,19] (by kernel_rfl) trivial)))) (by intro i e;cases e) rfl
def Ys92 (N:Nat) (cs:List AV) (n:Nat) (os:List AV) (m:Int) (i:Int):State:=(.val (.sl N cs)::(dds 1 (.own 2 0 []::(dds 1 (.own 2 n os::(dds 9 (.val (.int .i64 m)::(.val (.int .i64 i)::(dds 12 [])))))))))
theorem Yk92_1 (N:Nat) (cs:List AV) (n:Nat) (os:List AV) (m:Int) (i:Int) (ds:List AV) (r:Rn) (v:Int) (c1:(decide (i<m))=true) (n1:0≤i∧i<(N:Int)) (n2:takeA (List.drop (Int.toNat i*2) cs) 0 2 false=some (.agg [.bool r.1, .sl r.2.length (lm r.2)])) (n3:Runs Yir 132 [.agg [.bool r.1, .sl r.2.length (lm r.2)]] (.agg [.bool (decide (v<0)), .sl ((limbs (Int.natAbs v)).length) (lm (limbs (Int.natAbs v)))])) (n4:0≤i∧i<(n:Int)) (n5:layA os (Int.toNat i*2) [.bool (decide (v<0)), .sl ((limbs (Int.natAbs v)).length) (lm (limbs (Int.natAbs v)))]=some ds):RunsW Yir Yc92 (Ys92 N cs n os m i) .norm (Ys92 N cs n ds m (i64.wrap (i+1))):=RunsW.script (ps:=[(decide (i<m))=true,0≤i∧i<(N:Int),takeA (List.drop (Int.toNat i*2) cs) 0 2 false=some (.agg [.bool r.1, .sl r.2.length (lm r.2)]),Runs Yir 132 [.agg [.bool r.1, .sl r.2.length (lm r.2)]] (.agg [.bool (decide (v<0)), .sl ((limbs (Int.natAbs v)).length) (lm (limbs (Int.natAbs v)))]),0≤i∧i<(n:Int),layA os (Int.toNat i*2) [.bool (decide (v<0)), .sl ((limbs (Int.natAbs v)).length) (lm (limbs (Int.natAbs v)))]=some ds]) TWC_holds 300 [.b true, .v (.agg [.bool r.1, .sl r.2.length (lm r.2)]), .r (.agg [.bool (decide (v<0)), .sl ((limbs (Int.natAbs v)).length) (lm (limbs (Int.natAbs v)))]), .l ds] [0,2,4,14,15] (by kernel_rfl) ⟨c1,n1,n2,n3,n4,n5,trivial⟩
theorem Yk92_2 (N:Nat) (cs:List AV) (n:Nat) (os:List AV) (m:Int) (i:Int) (c1:(decide (i<m))=false):RunsW Yir Yc92 (Ys92 N cs n os m i) (.exit 0) (Ys92 N cs n os m i):=RunsW.script (ps:=[(decide (i<m))=false]) TWC_holds 300 [.b false] [0,2,4,14,15] (by kernel_rfl) ⟨c1,trivial⟩
theorem Yloop92 (rs:List Rn) (hg:∀ r∈rs,Good 1048576 r) (hN:rs.length≤1048576) (n:Nat) (hn:n≤rs.length):∀ (r i:Nat),i+r=n →
  RunsW Yir (.loop Yc92) (Ys92 rs.length (pc rs) n (pc (fillTo (fun j=>cn (rval (rs.getD j z0))) i r)) (n:Int) (i:Int)) (.exit 0) (Ys92 rs.length (pc rs) n (pc (fillTo (fun j=>cn (rval (rs.getD j z0))) n 0)) (n:Int) (n:Int)):=by
 intro r
 induction r with
 | zero =>
  intro i hi
  have hi':i=n:=by omega
  subst hi'
  exact RunsW.loop_out (Yk92_2 rs.length (pc rs) i _ (i:Int) (i:Int) (by simp)) (by intro e;cases e)
 | succ r ih =>
  intro i hi
  have ei:i64.wrap ((i:Int)+1)=((i+1:Nat):Int):=by rw [w64 (by omega) (by omega)];omega
  have hx:=take_pc (rs:=rs) (i:=i) (by omega)
  have gm:=good_getD hg i
  have hs:=wtrim_run (neg:=(rs.getD i z0).1) gm.1 gm.2
  have hst:=lay_pc (rs:=fillTo (fun j=>cn (rval (rs.getD j z0))) i (r+1)) (i:=i) (r:=cn (rval (rs.getD i z0))) (by rw [fillTo_length];omega)
  rw [fillTo_set (fun j=>cn (rval (rs.getD j z0))) i r] at hst
  have h1:=Yk92_1 rs.length (pc rs) n _ (n:Int) (i:Int) _ (rs.getD i z0) (rval (rs.getD i z0)) (by simp;omega) (by omega) (by rw [Int.toNat_natCast];exact hx) hs (by omega) (by rw [Int.toNat_natCast];exact hst)
  rw [ei] at h1
  exact RunsW.loop h1 (ih (i+1) (by omega))
theorem Yrun92_z (rs:List Rn) (hd:Runs Yir 62 [.sl rs.length (pc rs)] (.int .i64 (((topN (vals rs) rs.length:Nat):Int)-1))) (hz:((i64.wrap ((((topN (vals rs) rs.length:Nat):Int)-1)+1))==0)=true):Runs Yir 92 [.sl rs.length (pc rs)] (.fresh 2 0 []):=Runs.script (ps:=[Runs Yir 62 [.sl rs.length (pc rs)] (.int .i64 (((topN (vals rs) rs.length:Nat):Int)-1)),((i64.wrap ((((topN (vals rs) rs.length:Nat):Int)-1)+1))==0)=true]) TWC_holds rfl 300 rfl [.r (.int .i64 (((topN (vals rs) rs.length:Nat):Int)-1)), .b true] (by kernel_rfl) ⟨hd,hz,trivial⟩
theorem Yrun92_p (rs ss:List Rn) (hd:Runs Yir 62 [.sl rs.length (pc rs)] (.int .i64 (((topN (vals rs) rs.length:Nat):Int)-1))) (hz:((i64.wrap ((((topN (vals rs) rs.length:Nat):Int)-1)+1))==0)=false) (hmk:0≤i64.wrap ((((topN (vals rs) rs.length:Nat):Int)-1)+1)∧i64.wrap ((((topN (vals rs) rs.length:Nat):Int)-1)+1)≤1048576) (hl:RunsW Yir (.loop Yc92) (Ys92 rs.length (pc rs) (Int.toNat (i64.wrap ((((topN (vals rs) rs.length:Nat):Int)-1)+1))) (replA [.bool false, .sl 0 []] (Int.toNat (i64.wrap ((((topN (vals rs) rs.length:Nat):Int)-1)+1)))) (((Int.toNat (i64.wrap ((((topN (vals rs) rs.length:Nat):Int)-1)+1))):Nat):Int) 0) (.exit 0) (Ys92 rs.length (pc rs) (Int.toNat (i64.wrap ((((topN (vals rs) rs.length:Nat):Int)-1)+1))) (pc ss) (((Int.toNat (i64.wrap ((((topN (vals rs) rs.length:Nat):Int)-1)+1))):Nat):Int) (((Int.toNat (i64.wrap ((((topN (vals rs) rs.length:Nat):Int)-1)+1))):Nat):Int))):Runs Yir 92 [.sl rs.length (pc rs)] (.fresh 2 (Int.toNat (i64.wrap ((((topN (vals rs) rs.length:Nat):Int)-1)+1))) (pc ss)):=Runs.of_bodyW (fn:=Yi92) (s:=(.val (.sl rs.length (pc rs))::(dds 1 (.own 2 (Int.toNat (i64.wrap ((((topN (vals rs) rs.length:Nat):Int)-1)+1))) (pc ss)::(dds 11 (.val (.int .i64 (((Int.toNat (i64.wrap ((((topN (vals rs) rs.length:Nat):Int)-1)+1))):Nat):Int))::(.val (.int .i64 (((Int.toNat (i64.wrap ((((topN (vals rs) rs.length:Nat):Int)-1)+1))):Nat):Int))::(dds 12 [])))))))) (ex := .ret) rfl rfl (RunsW.seq (RunsW.script (t:=(vp rs::(dds 1 (.own 2 0 []::(dds 25 []))))) (ex := .norm) (ps:=[]) TWC_holds 300 [] [0,2] (by kernel_rfl) trivial) (RunsW.seq (RunsW.script (t:=(vp rs::(dds 1 (.own 2 0 []::(vi (i64.wrap ((((topN (vals rs) rs.length:Nat):Int)-1)+1))::(dds 2 (vp rs::(vi (((topN (vals rs) rs.length:Nat):Int)-1)::(vi (i64.wrap ((((topN (vals rs) rs.length:Nat):Int)-1)+1))::(dds 19 [])))))))))) (ex := .norm) (ps:=[Runs Yir 62 [.sl rs.length (pc rs)] (.int .i64 (((topN (vals rs) rs.length:Nat):Int)-1))]) TWC_holds 300 [.r (.int .i64 (((topN (vals rs) rs.length:Nat):Int)-1))] [0,2,3,6,7,8] (by kernel_rfl) ⟨hd,trivial⟩) (RunsW.seq (RunsW.script (t:=(vp rs::(dds 1 (.own 2 0 []::(vi (i64.wrap ((((topN (vals rs) rs.length:Nat):Int)-1)+1))::(dds 2 (vp rs::(vi (((topN (vals rs) rs.length:Nat):Int)-1)::(vi (i64.wrap ((((topN (vals rs) rs.length:Nat):Int)-1)+1))::(vi (i64.wrap ((((topN (vals rs) rs.length:Nat):Int)-1)+1))::(.val (.bool ((i64.wrap ((((topN (vals rs) rs.length:Nat):Int)-1)+1))==0))::(dds 17 [])))))))))))) (ex := .norm) (ps:=[((i64.wrap ((((topN (vals rs) rs.length:Nat):Int)-1)+1))==0)=false]) TWC_holds 300 [.b false] [0,2,3,6,7,8,9,10] (by kernel_rfl) ⟨hz,trivial⟩) (RunsW.seq (RunsW.script (t:=(vp rs::(dds 1 (.own 2 0 []::(vi (i64.wrap ((((topN (vals rs) rs.length:Nat):Int)-1)+1))::(.own 2 (Int.toNat (i64.wrap ((((topN (vals rs) rs.length:Nat):Int)-1)+1))) (replA [.bool false, .sl 0 []] (Int.toNat (i64.wrap ((((topN (vals rs) rs.length:Nat):Int)-1)+1))))::(dds 1 (vp rs::(vi (((topN (vals rs) rs.length:Nat):Int)-1)::(vi (i64.wrap ((((topN (vals rs) rs.length:Nat):Int)-1)+1))::(vi (i64.wrap ((((topN (vals rs) rs.length:Nat):Int)-1)+1))::(.val (.bool ((i64.wrap ((((topN (vals rs) rs.length:Nat):Int)-1)+1))==0))::(vi (i64.wrap ((((topN (vals rs) rs.length:Nat):Int)-1)+1))::(dds 16 [])))))))))))))) (ex := .norm) (ps:=[0≤(i64.wrap ((((topN (vals rs) rs.length:Nat):Int)-1)+1))∧(i64.wrap ((((topN (vals rs) rs.length:Nat):Int)-1)+1))≤1048576]) TWC_holds 300 [] [0,2,3,4,6,7,8,9,10,11] (by kernel_rfl) ⟨hmk,trivial⟩) (RunsW.seq (RunsW.seq (RunsW.script (t:=(vp rs::(dds 1 (.own 2 0 []::(dds 1 (.own 2 (Int.toNat (i64.wrap ((((topN (vals rs) rs.length:Nat):Int)-1)+1))) (replA [.bool false, .sl 0 []] (Int.toNat (i64.wrap ((((topN (vals rs) rs.length:Nat):Int)-1)+1))))::(dds 9 (vi (((Int.toNat (i64.wrap ((((topN (vals rs) rs.length:Nat):Int)-1)+1))):Nat):Int)::(vi 0::(dds 12 [])))))))))) (ex := .norm) (ps:=[]) TWC_holds 300 [] [0,2,4,14,15] (by kernel_rfl) trivial) (RunsW.block hl)) (RunsW.script (t:=(vp rs::(dds 1 (.own 2 (Int.toNat (i64.wrap ((((topN (vals rs) rs.length:Nat):Int)-1)+1))) (pc ss)::(dds 11 (vi (((Int.toNat (i64.wrap ((((topN (vals rs) rs.length:Nat):Int)-1)+1))):Nat):Int)::(vi (((Int.toNat (i64.wrap ((((topN (vals rs) rs.length:Nat):Int)-1)+1))):Nat):Int)::(dds 12 [])))))))) (ex := .ret) (ps:=[]) TWC_holds 300 [] [0,2,14,15] (by kernel_rfl) trivial)))))) (by intro i e;cases e) rfl
theorem atrim_run {rs:List Rn} (hg:∀ r∈rs,Good 1048576 r) (hN:rs.length≤1048576):Runs Yir 92 [.sl rs.length (pc rs)] (.fresh 2 (trimL (vals rs)).length (pk (trimL (vals rs)))):=by
 have hle:=topN_le (vals rs) rs.length
 have hlen:(trimL (vals rs)).length=topN (vals rs) rs.length:=by rw [trim_length,vals_length]
 have hd:=degree_run hg hN
 have e1:i64.wrap ((((topN (vals rs) rs.length:Nat):Int)-1)+1)=((topN (vals rs) rs.length:Nat):Int):=by rw [w64 (by omega) (by omega)];omega
 have e2:(Int.toNat (i64.wrap ((((topN (vals rs) rs.length:Nat):Int)-1)+1)))=topN (vals rs) rs.length:=by rw [e1,Int.toNat_natCast]
 by_cases h0:topN (vals rs) rs.length=0
 ·have h:=Yrun92_z rs hd (by rw [e1,h0];rfl)
  have:trimL (vals rs)=[]:=List.eq_nil_of_length_eq_zero (by omega)
  rw [this]
  exact h
 ·have hl:=Yloop92 rs hg hN (topN (vals rs) rs.length) hle (topN (vals rs) rs.length) 0 (by omega)
  rw [fillTo_zero,← repl_pc] at hl
  have h:=Yrun92_p rs _ hd (by rw [e1,beq_eq_false_iff_ne];omega) (by rw [e1];omega) (by rw [e2];exact hl)
  rw [e2,fillTo_full] at h
  have e3:(List.range (topN (vals rs) rs.length)).map (fun j=>cn (rval (rs.getD j z0)))=(trimL (vals rs)).map cn:=by
   rw [← range_cn,hlen]
   apply List.map_congr_left
   intro i _
   rw [getD_trim,vals_getD]
  rw [e3] at h
  rw [hlen]
  exact h
def Ys127 (N:Nat) (cs:List AV) (n:Nat) (os:List AV) (m:Int) (i:Int):State:=(.val (.sl N cs)::(dds 1 (.own 2 0 []::(.own 2 n os::(dds 5 (.val (.int .i64 m)::(.val (.int .i64 i)::(dds 12 []))))))))
theorem Yk127_1 (N:Nat) (cs:List AV) (n:Nat) (os:List AV) (m:Int) (i:Int) (ds:List AV) (r:Rn) (v:Int) (c1:(decide (i<m))=true) (n1:0≤i∧i<(N:Int)) (n2:takeA (List.drop (Int.toNat i*2) cs) 0 2 false=some (.agg [.bool r.1, .sl r.2.length (lm r.2)])) (n3:Runs Yir 112 [.agg [.bool r.1, .sl r.2.length (lm r.2)]] (.agg [.bool (decide (v<0)), .sl ((limbs (Int.natAbs v)).length) (lm (limbs (Int.natAbs v)))])) (n4:0≤i∧i<(n:Int)) (n5:layA os (Int.toNat i*2) [.bool (decide (v<0)), .sl ((limbs (Int.natAbs v)).length) (lm (limbs (Int.natAbs v)))]=some ds):RunsW Yir Yc127 (Ys127 N cs n os m i) .norm (Ys127 N cs n ds m (i64.wrap (i+1))):=RunsW.script (ps:=[(decide (i<m))=true,0≤i∧i<(N:Int),takeA (List.drop (Int.toNat i*2) cs) 0 2 false=some (.agg [.bool r.1, .sl r.2.length (lm r.2)]),Runs Yir 112 [.agg [.bool r.1, .sl r.2.length (lm r.2)]] (.agg [.bool (decide (v<0)), .sl ((limbs (Int.natAbs v)).length) (lm (limbs (Int.natAbs v)))]),0≤i∧i<(n:Int),layA os (Int.toNat i*2) [.bool (decide (v<0)), .sl ((limbs (Int.natAbs v)).length) (lm (limbs (Int.natAbs v)))]=some ds]) TWC_holds 300 [.b true, .v (.agg [.bool r.1, .sl r.2.length (lm r.2)]), .r (.agg [.bool (decide (v<0)), .sl ((limbs (Int.natAbs v)).length) (lm (limbs (Int.natAbs v)))]), .l ds] [0,2,3,9,10] (by kernel_rfl) ⟨c1,n1,n2,n3,n4,n5,trivial⟩
theorem Yk127_2 (N:Nat) (cs:List AV) (n:Nat) (os:List AV) (m:Int) (i:Int) (c1:(decide (i<m))=false):RunsW Yir Yc127 (Ys127 N cs n os m i) (.exit 0) (Ys127 N cs n os m i):=RunsW.script (ps:=[(decide (i<m))=false]) TWC_holds 300 [.b false] [0,2,3,9,10] (by kernel_rfl) ⟨c1,trivial⟩
theorem Yloop127 (rs:List Rn) (hg:∀ r∈rs,Good 1048576 r) (hN:rs.length≤1048576) (n:Nat) (hn:n≤rs.length):∀ (r i:Nat),i+r=n →
  RunsW Yir (.loop Yc127) (Ys127 rs.length (pc rs) n (pc (fillTo (fun j=>cn (-(rval (rs.getD j z0)))) i r)) (n:Int) (i:Int)) (.exit 0) (Ys127 rs.length (pc rs) n (pc (fillTo (fun j=>cn (-(rval (rs.getD j z0)))) n 0)) (n:Int) (n:Int)):=by
 intro r
 induction r with
 | zero =>
  intro i hi
  have hi':i=n:=by omega
  subst hi'
  exact RunsW.loop_out (Yk127_2 rs.length (pc rs) i _ (i:Int) (i:Int) (by simp)) (by intro e;cases e)
 | succ r ih =>
  intro i hi
  have ei:i64.wrap ((i:Int)+1)=((i+1:Nat):Int):=by rw [w64 (by omega) (by omega)];omega
  have hx:=take_pc (rs:=rs) (i:=i) (by omega)
  have gm:=good_getD hg i
  have hs:=wneg_run (neg:=(rs.getD i z0).1) gm.1 gm.2
  have hst:=lay_pc (rs:=fillTo (fun j=>cn (-(rval (rs.getD j z0)))) i (r+1)) (i:=i) (r:=cn (-(rval (rs.getD i z0)))) (by rw [fillTo_length];omega)
  rw [fillTo_set (fun j=>cn (-(rval (rs.getD j z0)))) i r] at hst
  have h1:=Yk127_1 rs.length (pc rs) n _ (n:Int) (i:Int) _ (rs.getD i z0) (-(rval (rs.getD i z0))) (by simp;omega) (by omega) (by rw [Int.toNat_natCast];exact hx) hs (by omega) (by rw [Int.toNat_natCast];exact hst)
  rw [ei] at h1
  exact RunsW.loop h1 (ih (i+1) (by omega))
theorem Yrun127 (rs ss:List Rn) (hmk:0≤(rs.length:Int)∧(rs.length:Int)≤1048576) (hl:RunsW Yir (.loop Yc127) (Ys127 rs.length (pc rs) (Int.toNat (rs.length:Int)) (replA [.bool false, .sl 0 []] (Int.toNat (rs.length:Int))) (rs.length:Int) 0) (.exit 0) (Ys127 rs.length (pc rs) (Int.toNat (rs.length:Int)) (pc ss) (rs.length:Int) (rs.length:Int))):Runs Yir 127 [.sl rs.length (pc rs)] (.fresh 2 (Int.toNat (rs.length:Int)) (pc ss)):=Runs.of_bodyW (fn:=Yi127) (s:=(.val (.sl rs.length (pc rs))::(dds 1 (.own 2 (Int.toNat (rs.length:Int)) (pc ss)::(dds 6 (.val (.int .i64 (rs.length:Int))::(.val (.int .i64 (rs.length:Int))::(dds 12 [])))))))) (ex := .ret) rfl rfl (RunsW.seq (RunsW.script (t:=(vp rs::(dds 1 (.own 2 0 []::(dds 20 []))))) (ex := .norm) (ps:=[]) TWC_holds 300 [] [0,2] (by kernel_rfl) trivial) (RunsW.seq (RunsW.script (t:=(vp rs::(dds 1 (.own 2 0 []::(.own 2 (Int.toNat (rs.length:Int)) (replA [.bool false, .sl 0 []] (Int.toNat (rs.length:Int)))::(dds 1 (vp rs::(vi (rs.length:Int)::(dds 16 []))))))))) (ex := .norm) (ps:=[0≤(rs.length:Int)∧(rs.length:Int)≤1048576]) TWC_holds 300 [] [0,2,3,5,6] (by kernel_rfl) ⟨hmk,trivial⟩) (RunsW.seq (RunsW.seq (RunsW.script (t:=(vp rs::(dds 1 (.own 2 0 []::(.own 2 (Int.toNat (rs.length:Int)) (replA [.bool false, .sl 0 []] (Int.toNat (rs.length:Int)))::(dds 5 (vi (rs.length:Int)::(vi 0::(dds 12 []))))))))) (ex := .norm) (ps:=[]) TWC_holds 300 [] [0,2,3,9,10] (by kernel_rfl) trivial) (RunsW.block hl)) (RunsW.script (t:=(vp rs::(dds 1 (.own 2 (Int.toNat (rs.length:Int)) (pc ss)::(dds 6 (vi (rs.length:Int)::(vi (rs.length:Int)::(dds 12 [])))))))) (ex := .ret) (ps:=[]) TWC_holds 300 [] [0,2,9,10] (by kernel_rfl) trivial)))) (by intro i e;cases e) rfl
theorem anegative_run {rs:List Rn} (hg:∀ r∈rs,Good 1048576 r) (hN:rs.length≤1048576):Runs Yir 127 [.sl rs.length (pc rs)] (.fresh 2 rs.length (pk (pneg (vals rs)))):=by
 have hl:=Yloop127 rs hg hN rs.length (Nat.le_refl _) rs.length 0 (by omega)
 rw [fillTo_zero,← repl_pc] at hl
 have h:=Yrun127 rs _ (by omega) (by rw [Int.toNat_natCast];exact hl)
 rw [Int.toNat_natCast,fillTo_full] at h
 have e3:(List.range rs.length).map (fun j=>cn (-(rval (rs.getD j z0))))=(pneg (vals rs)).map cn:=by
  have hq:(pneg (vals rs)).length=rs.length:=by simp [pneg,vals]
  rw [← range_cn,hq]
  apply List.map_congr_left
  intro i _
  rw [getD_pneg,vals_getD]
 rw [e3] at h
 exact h
def TAA:Table:=TWC
theorem TAA_holds:THolds Yir TAA:=TWC_holds
end Go.Proofs.Ythnnfemologhfaa

namespace Go.Proofs.Ythnnfemologhfaa
open Go.IntKind (i64 u64 u32)
open Go.Ai
set_option maxRecDepth 100000
def Ys85 (rs:List Rn) (w:Rn) (i:Int) (z:Rn):State:=(.val (.sl rs.length (pc rs))::(dds 1 (.box [.bool z.1, .sl z.2.length (lm z.2)]::(.box [.bool w.1, .sl w.2.length (lm w.2)]::(.val (.int .i64 i)::(dds 19 []))))))
theorem Yk85_1 (rs:List Rn) (w:Rn) (i:Int) (z:Rn) (b g:Int) (c1:(decide (i≥0))=true) (c2:(b != 1)=true) (n1:0≤i∧i<(rs.length:Int)) (n2:Runs Yir 77 [rawAV w] (.int .i64 b)) (n3:Runs Yir 109 [rawAV w,rawAV (rs.getD (Int.toNat i) z0)] (bigAV g)):RunsW Yir Yc85 (Ys85 rs w i z) .norm (Ys85 rs (cn g) (i64.wrap (i-1)) z):=(RunsW.go TQE_holds 400 [.b true, .r (.int .i64 b), .b true, .v (rawAV (rs.getD (Int.toNat i) z0)), .r (bigAV g)] [0,2,3,4] (ac c1 (ac n2 (ac c2 (ac n1 (ac (take_pcI n1) (ac n3 a0)))))) (by kernel_rfl))
theorem Yk85_2 (rs:List Rn) (w:Rn) (i:Int) (z:Rn) (b:Int) (c1:(decide (i≥0))=true) (c2:(b != 1)=false) (n1:Runs Yir 77 [rawAV w] (.int .i64 b)):RunsW Yir Yc85 (Ys85 rs w i z) (.exit 0) (Ys85 rs w i z):=(RunsW.go TQE_holds 400 [.b true, .r (.int .i64 b), .b false] [0,2,3,4] (ac c1 (ac n1 (ac c2 a0))) (by kernel_rfl))
theorem Yk85_3 (rs:List Rn) (w:Rn) (i:Int) (z:Rn)  (c1:(decide (i≥0))=false):RunsW Yir Yc85 (Ys85 rs w i z) (.exit 0) (Ys85 rs w i z):=(RunsW.go TQE_holds 400 [.b false, .b false] [0,2,3,4] (ac c1 (ac (show false=false from rfl) a0)) (by kernel_rfl))
theorem Yrun85 (rs:List Rn) (w z:Rn) (i:Int) (hl1:RunsW Yir (.loop Yc85) (Ys85 rs (false,[]) (i64.wrap ((rs.length:Int)-1)) (false,[])) (.exit 0) (Ys85 rs w i z)):Runs Yir 85 [.sl rs.length (pc rs)] (rawAV w):=Runs.of_bodyW (fn:=Yi85) (s:=(dds 2 (.box [.bool w.1, .sl w.2.length (lm w.2)]::(dds 21 [])))) (ex := .ret) rfl rfl (RunsW.seq (RunsW.go (t:=(vp rs::(dds 1 (.box [.bool false, .sl 0 []]::(dds 21 []))))) (ex := .norm) TQE_holds 400 [] [0,2] a0 (by kernel_rfl)) (RunsW.seq (RunsW.go (t:=(vp rs::(dds 1 (.box [.bool false, .sl 0 []]::(.box [.bool false, .sl 0 []]::(dds 20 [])))))) (ex := .norm) TQE_holds 400 [] [0,2,3] a0 (by kernel_rfl)) (RunsW.seq (RunsW.seq (RunsW.go TQE_holds 400 [] [0,2,3,4] a0 (by kernel_rfl)) (RunsW.block hl1)) (RunsW.go TQE_holds 400 [] [2] a0 (by kernel_rfl))))) (by intro i e;cases e) rfl
def Ys86 (k:Nat) (os:List Rn) (w:Rn) (n:Int) (i:Int):State:=(dds 3 (.own 2 k (pc os)::(.box [.bool w.1, .sl w.2.length (lm w.2)]::(dds 9 (.val (.int .i64 n)::(.val (.int .i64 i)::(dds 16 [])))))))
theorem Yk86_1 (k:Nat) (os:List Rn) (w:Rn) (n:Int) (i:Int) (q r:Int) (c1:(decide (i<n))=true) (n1:0≤i∧i<(k:Int)) (n2:os.length=k) (n3:Runs Yir 110 [rawAV (os.getD (Int.toNat i) z0),rawAV w] (.tup [bigAV q,bigAV r])):RunsW Yir Yc86 (Ys86 k os w n i) .norm (Ys86 k (os.set (Int.toNat i) (cn q)) w n (i64.wrap (i+1))):=(RunsW.go TQE_holds 400 [.b true, .v (rawAV (os.getD (Int.toNat i) z0)), .r (.tup [bigAV q,bigAV r]), .l (pc (os.set (Int.toNat i) (cn q)))] [3,4,14,15] (ac c1 (ac n1 (ac (own_pcI n2 n1) (ac n3 (ac n1 (ac (lay_pcI (r:=cn q) n2 n1) a0)))))) (by kernel_rfl))
theorem Yk86_2 (k:Nat) (os:List Rn) (w:Rn) (n:Int) (i:Int)  (c1:(decide (i<n))=false):RunsW Yir Yc86 (Ys86 k os w n i) (.exit 0) (Ys86 k os w n i):=(RunsW.go TQE_holds 400 [.b false] [3,4,14,15] (ac c1 a0) (by kernel_rfl))
theorem Yrun86_1 (rs ts os:List Rn) (w:Rn) (g b n i:Int) (k:Nat) (c1:(decide (b>1))=true) (n1:Runs Yir 92 [.sl rs.length (pc rs)] (.fresh 2 ts.length (pc ts))) (n2:List.all (pc ts) (fun c => !isI c)=true) (n3:intsOnly (bigAV g)=true) (n4:Runs Yir 85 [.sl ts.length (pc ts)] (bigAV g)) (n5:Runs Yir 77 [bigAV g] (.int .i64 b)) (hl6:RunsW Yir (.loop Yc86) (Ys86 ts.length ts (cn g) (ts.length:Int) 0) (.exit 0) (Ys86 k os w n i)):Runs Yir 86 [.sl rs.length (pc rs)] (.fresh 2 k (pc os)):=Runs.of_bodyW (fn:=Yi86) (s:=(dds 2 (.own 2 k (pc os)::(dds 29 [])))) (ex := .ret) rfl rfl (RunsW.seq (RunsW.go (t:=(vp rs::(dds 1 (.own 2 0 []::(dds 29 []))))) (ex := .norm) TQE_holds 400 [] [0,2] a0 (by kernel_rfl)) (RunsW.seq (RunsW.go (t:=(vp rs::(dds 1 (.own 2 0 []::(.own 2 ts.length (pc ts)::(dds 28 [])))))) (ex := .norm) TQE_holds 400 [.r (.fresh 2 ts.length (pc ts))] [0,2,3] (ac n1 a0) (by kernel_rfl)) (RunsW.seq (RunsW.go (t:=(vp rs::(dds 1 (.own 2 0 []::(.own 2 ts.length (pc ts)::(bN g::(dds 27 []))))))) (ex := .norm) TQE_holds 400 [.r (bigAV g)] [0,2,3,4] (ac n2 (ac n3 (ac n4 a0))) (by kernel_rfl)) (RunsW.seq (RunsW.seq (RunsW.go (t:=(vp rs::(dds 1 (.own 2 0 []::(.own 2 ts.length (pc ts)::(bN g::(dds 7 (.val (.bool (decide (b>1)))::(dds 19 []))))))))) (ex := .norm) TQE_holds 400 [.r (.int .i64 b)] [0,2,3,4,12] (ac n5 a0) (by kernel_rfl)) (RunsW.cond_t (by rfl) c1 (RunsW.seq (RunsW.go TQE_holds 400 [] [3,4,14,15] a0 (by kernel_rfl)) (RunsW.block hl6)))) (RunsW.go TQE_holds 400 [] [2] a0 (by kernel_rfl)))))) (by intro i e;cases e) rfl
theorem Yrun86_2 (rs ts:List Rn) (g b:Int) (c1:(decide (b>1))=false) (n1:Runs Yir 92 [.sl rs.length (pc rs)] (.fresh 2 ts.length (pc ts))) (n2:List.all (pc ts) (fun c => !isI c)=true) (n3:intsOnly (bigAV g)=true) (n4:Runs Yir 85 [.sl ts.length (pc ts)] (bigAV g)) (n5:Runs Yir 77 [bigAV g] (.int .i64 b)):Runs Yir 86 [.sl rs.length (pc rs)] (.fresh 2 ts.length (pc ts)):=Runs.of_bodyW (fn:=Yi86) (s:=(dds 2 (.own 2 ts.length (pc ts)::(dds 29 [])))) (ex := .ret) rfl rfl (RunsW.seq (RunsW.go (t:=(vp rs::(dds 1 (.own 2 0 []::(dds 29 []))))) (ex := .norm) TQE_holds 400 [] [0,2] a0 (by kernel_rfl)) (RunsW.seq (RunsW.go (t:=(vp rs::(dds 1 (.own 2 0 []::(.own 2 ts.length (pc ts)::(dds 28 [])))))) (ex := .norm) TQE_holds 400 [.r (.fresh 2 ts.length (pc ts))] [0,2,3] (ac n1 a0) (by kernel_rfl)) (RunsW.seq (RunsW.go (t:=(vp rs::(dds 1 (.own 2 0 []::(.own 2 ts.length (pc ts)::(bN g::(dds 27 []))))))) (ex := .norm) TQE_holds 400 [.r (bigAV g)] [0,2,3,4] (ac n2 (ac n3 (ac n4 a0))) (by kernel_rfl)) (RunsW.seq (RunsW.seq (RunsW.go (t:=(vp rs::(dds 1 (.own 2 0 []::(.own 2 ts.length (pc ts)::(bN g::(dds 7 (.val (.bool (decide (b>1)))::(dds 19 []))))))))) (ex := .norm) TQE_holds 400 [.r (.int .i64 b)] [0,2,3,4,12] (ac n5 a0) (by kernel_rfl)) (RunsW.cond_f (by rfl) c1 (RunsW.go (t:=(dds 2 (.own 2 0 []::(.own 2 ts.length (pc ts)::(dds 28 []))))) (ex := .norm) TQE_holds 400 [] [2,3] a0 (by kernel_rfl)))) (RunsW.go TQE_holds 400 [] [2] a0 (by kernel_rfl)))))) (by intro i e;cases e) rfl
def Ys75 (rs:List Rn) (k:Nat) (cs:List AV) (i:Int):State:=(.val (.sl rs.length (pc rs))::(dds 2 (.own 2 k cs::(.val (.int .i64 i)::(dds 18 [])))))
theorem Yk75_1 (rs:List Rn) (k:Nat) (cs:List AV) (i:Int) (d v:Int) (c1:(decide (i≤d))=true) (n1:0≤i∧i<(rs.length:Int)) (n2:k+1≤1048576) (n3:Runs Yir 62 [.sl rs.length (pc rs)] (.int .i64 d)) (n4:Runs Yir 94 [.int .i64 i] (bigAV i)) (n5:Runs Yir 113 [rawAV (rs.getD (Int.toNat i) z0),bigAV i] (bigAV v)):RunsW Yir Yc75 (Ys75 rs k cs i) .norm (Ys75 rs (k+1) (cs++([.bool (decide (v<0)), .sl ((limbs (Int.natAbs v)).length) (lm (limbs (Int.natAbs v)))]:List AV)) (i64.wrap (i+1))):=(RunsW.go TQE_holds 400 [.r (.int .i64 d), .b true, .v (rawAV (rs.getD (Int.toNat i) z0)), .r (bigAV i), .r (bigAV v)] [0,3,4] (ac n3 (ac c1 (ac n1 (ac (take_pcI n1) (ac n4 (ac n5 (ac (show List.length ([.bool (decide (v<0)), .sl ((limbs (Int.natAbs v)).length) (lm (limbs (Int.natAbs v)))]:List AV)=1*2 from rfl) (ac n2 a0)))))))) (by kernel_rfl))
theorem Yk75_2 (rs:List Rn) (k:Nat) (cs:List AV) (i:Int) (d:Int) (c1:(decide (i≤d))=false) (n1:Runs Yir 62 [.sl rs.length (pc rs)] (.int .i64 d)):RunsW Yir Yc75 (Ys75 rs k cs i) (.exit 0) (Ys75 rs k cs i):=(RunsW.go TQE_holds 400 [.r (.int .i64 d), .b false] [0,3,4] (ac n1 (ac c1 a0)) (by kernel_rfl))
theorem Yrun75 (rs os ts:List Rn) (k:Nat) (i:Int) (hl1:RunsW Yir (.loop Yc75) (Ys75 rs 0 [] 1) (.exit 0) (Ys75 rs k (pc os) i)) (n2:Runs Yir 92 [.sl k (pc os)] (.fresh 2 ts.length (pc ts))):Runs Yir 75 [.sl rs.length (pc rs)] (.fresh 2 ts.length (pc ts)):=Runs.of_bodyW (fn:=Yi75) (s:=(dds 2 (.own 2 ts.length (pc ts)::(dds 20 [])))) (ex := .ret) rfl rfl (RunsW.seq (RunsW.go (t:=(vp rs::(dds 1 (.own 2 0 []::(dds 20 []))))) (ex := .norm) TQE_holds 400 [] [0,2] a0 (by kernel_rfl)) (RunsW.seq (RunsW.go (t:=(vp rs::(dds 1 (.own 2 0 []::(.own 2 0 []::(dds 19 [])))))) (ex := .norm) TQE_holds 400 [] [0,2,3] a0 (by kernel_rfl)) (RunsW.seq (RunsW.seq (RunsW.go TQE_holds 400 [] [0,3,4] a0 (by kernel_rfl)) (RunsW.block hl1)) (RunsW.go TQE_holds 400 [.r (.fresh 2 ts.length (pc ts))] [2] (ac n2 a0) (by kernel_rfl))))) (by intro i e;cases e) rfl
def TRA:Table:=TQE
theorem TRA_holds:THolds Yir TRA:=TQE_holds
end Go.Proofs.Ythnnfemologhfaa

namespace Go.Ai
open Go.IntKind (i64 u64 u32)
def cont:List Int→Nat
 | []=>0
 | x::xs=>Nat.gcd x.natAbs (cont xs)
theorem dvd_cont (d:Nat):∀ xs:List Int,d∣cont xs↔∀ i,(d:Int)∣xs.getD i 0
 | []=>by simp [cont]
 | x::xs=>by
  have ih:=dvd_cont d xs
  simp only [cont,Nat.dvd_gcd_iff,ih]
  constructor
  ·rintro ⟨h1,h2⟩ i
   cases i with
   | zero=>simpa using Int.ofNat_dvd_left.2 h1
   | succ i=>simpa using h2 i
  ·intro h
   refine ⟨Int.ofNat_dvd_left.1 (by simpa using h 0),fun i=>by simpa using h (i+1)⟩
theorem cont_dvd (xs:List Int) (i:Nat):(cont xs:Int)∣xs.getD i 0:=(dvd_cont _ xs).1 (Nat.dvd_refl _) i
theorem cont_ext {xs ys:List Int} (h:∀ i,xs.getD i 0=ys.getD i 0):cont xs=cont ys :=
 Nat.dvd_antisymm ((dvd_cont _ _).2 fun i=>h i ▸ cont_dvd xs i) ((dvd_cont _ _).2 fun i=>h i ▸ cont_dvd ys i)
theorem cont_trim (xs:List Int):cont (trimL xs)=cont xs:=cont_ext (getD_trim xs)
theorem cont_zero {xs:List Int}:cont xs=0↔∀ i,xs.getD i 0=0:=by
 constructor
 ·intro h i
  have:=cont_dvd xs i
  rw [h] at this
  exact Int.zero_dvd.1 this
 ·intro h
  have:cont xs=cont []:=cont_ext fun i=>by rw [h i];simp
  rw [this];rfl
theorem trim_nil {xs:List Int}:trimL xs=[]↔∀ i,xs.getD i 0=0:=by
 constructor
 ·intro h i
  rw [← getD_trim,h];simp
 ·intro h
  have:trimL xs=trimL []:=trim_ext fun i=>by rw [h i];simp
  rw [this];rfl
theorem cont_pos {xs:List Int} (h:trimL xs ≠ []):0<cont xs:=by
 rcases Nat.eq_zero_or_pos (cont xs) with g | g
 ·exact absurd (trim_nil.2 (cont_zero.1 g)) h
 ·exact g
theorem trim_psmul {k:Int} (hk:k ≠ 0) (xs:List Int):trimL (psmul k xs)=psmul k (trimL xs):=by
 have e:∀ n,topN (psmul k xs) n=topN xs n:=by
  intro n
  induction n with
  | zero=>rfl
  | succ n ih =>
   simp only [topN,ih,getD_psmul]
   by_cases h:xs.getD n 0=0
   ·rw [h,Int.mul_zero]
   ·rw [if_neg h,if_neg (Int.mul_ne_zero hk h)]
 simp only [trimL]
 rw [e,show (psmul k xs).length=xs.length by simp [psmul]]
 simp [psmul,List.map_take]
def prim (xs:List Int):List Int:=(trimL xs).map fun x=>x / (cont xs:Int)
theorem getD_prim (xs:List Int) (i:Nat):(prim xs).getD i 0=xs.getD i 0 / (cont xs:Int):=by
 rw [← getD_trim xs i]
 simp only [prim,List.getD_eq_getElem?_getD,List.getElem?_map]
 cases (trimL xs)[i]? <;> simp
theorem prim_length (xs:List Int):(prim xs).length=(trimL xs).length:=by simp [prim]
theorem prim_mul (xs:List Int) (i:Nat):(cont xs:Int)*(prim xs).getD i 0=xs.getD i 0:=by
 rw [getD_prim];exact Int.mul_ediv_cancel' (cont_dvd xs i)
theorem prim_nil {xs:List Int}:prim xs=[]↔∀ i,xs.getD i 0=0:=by
 rw [← trim_nil];simp [prim]
def Lead (xs:List Int):Prop:=trimL xs=xs
theorem lead_trim (xs:List Int):Lead (trimL xs):=trim_trim xs
theorem lead_top {xs:List Int} (h:Lead xs) (hn:xs ≠ []):xs.getD (xs.length-1) 0 ≠ 0:=by
 have e:=congrArg List.length h
 rw [trim_length] at e
 rcases topN_top xs xs.length with g | g
 ·rw [g] at e
  exact absurd (List.eq_nil_of_length_eq_zero e.symm) hn
 ·rw [e] at g;exact g
theorem psmul_prim (xs:List Int):psmul (cont xs) (prim xs)=trimL xs:=by
 apply list_ext
 ·simp [psmul,prim_length]
 ·intro i
  rw [getD_psmul,prim_mul,getD_trim]
theorem lead_prim (xs:List Int):Lead (prim xs):=by
 by_cases h:trimL xs=[]
 ·rw [prim_nil.2 (trim_nil.1 h)];rfl
 ·have hc:=cont_pos h
  have h1:=lead_trim xs
  rw [← psmul_prim] at h1
  unfold Lead at h1 ⊢
  rw [trim_psmul (by omega)] at h1
  have hinj:∀ a b:List Int,psmul (cont xs) a=psmul (cont xs) b→a=b:=by
   intro a b hab
   have hl:=congrArg List.length hab
   simp only [psmul,List.length_map] at hl
   apply list_ext hl
   intro i
   have:=congrArg (fun l:List Int=>l.getD i 0) hab
   simp only [getD_psmul] at this
   exact Int.eq_of_mul_eq_mul_left (by omega) this
  exact hinj _ _ h1
theorem prim_one {xs:List Int} (h:cont xs=1):prim xs=trimL xs:=by
 simp only [prim,h]
 rw [show (fun x:Int=>x / ((1:Nat):Int))=id by funext x;simp]
 simp
theorem fits_div {K:Nat} {x:Int} (h:Fits K x) (c:Nat):Fits K (x / (c:Int))∨¬ (c:Int)∣x:=by
 by_cases hd:(c:Int)∣x
 ·left
  obtain ⟨y,rfl⟩:=hd
  rcases Nat.eq_zero_or_pos c with h0 | h0
  ·subst h0;simpa using h
  ·rw [Int.mul_ediv_cancel_left _ (by omega)]
   unfold Fits at *
   rw [Int.natAbs_mul,Int.natAbs_natCast] at h
   have:=Nat.le_mul_of_pos_left y.natAbs h0
   omega
 ·exact Or.inr hd
theorem fits_prim {K:Nat} {xs:List Int} (h:∀ i,Fits K (xs.getD i 0)) (i:Nat):Fits K ((prim xs).getD i 0):=by
 rw [getD_prim]
 rcases fits_div (h i) (cont xs) with g | g
 ·exact g
 ·exact absurd (cont_dvd xs i) g
end Go.Ai

namespace Go.Ai
open Go.IntKind (i64 u64 u32)
def Kb (K:Nat) (r:List Int):Prop:=∀ i,Fits K (r.getD i 0)
theorem Kb.mono {J K:Nat} {r:List Int} (h:Kb J r) (hk:J≤K):Kb K r:=fun i=>(h i).mono hk
theorem Kb.mem {K:Nat} {r:List Int} (h:Kb K r):∀ x∈r,Fits K x:=fun x hx=>by
 obtain ⟨i,hi,rfl⟩:=List.mem_iff_getElem.1 hx
 have:=h i
 rwa [List.getD_eq_getElem?_getD,List.getElem?_eq_getElem hi] at this
theorem kb_of {K:Nat} {r:List Int} (h:∀ x∈r,Fits K x):Kb K r:=fits_getD h
theorem Kb.prim {K:Nat} {r:List Int} (h:Kb K r):Kb K (prim r):=fits_prim h
theorem Kb.trim {K:Nat} {r:List Int} (h:Kb K r):Kb K (trimL r):=fun i=>by rw [getD_trim];exact h i
def top (r:List Int):Int:=r.getD (r.length-1) 0
theorem getD_range (f:Nat→Int) (n i:Nat):((List.range n).map f).getD i 0=if i<n then f i else 0:=by
 rw [List.getD_eq_getElem?_getD,List.getElem?_map]
 by_cases h:i<n
 ·rw [List.getElem?_range h,if_pos h];rfl
 ·rw [List.getElem?_eq_none (by simpa using h),if_neg h];rfl
def pder (p:List Int):List Int:=trimL ((List.range (p.length-1)).map fun j=>p.getD (j+1) 0*((j+1:Nat):Int))
theorem getD_pder (p:List Int) (i:Nat):(pder p).getD i 0=p.getD (i+1) 0*((i+1:Nat):Int):=by
 unfold pder
 rw [getD_trim,getD_range]
 split
 ·rfl
 ·rw [getD_end (xs:=p) (by omega),Int.zero_mul]
end Go.Ai

namespace Go.Ai
open Go.IntKind (i64 u64 u32)
def shiftP (k:Nat) (q:List Int):List Int:=List.replicate k 0++q
theorem getD_shiftP (k:Nat) (q:List Int) (i:Nat):(shiftP k q).getD i 0=if k≤i then q.getD (i-k) 0 else 0:=by
 simp only [shiftP,List.getD_eq_getElem?_getD,List.getElem?_append,List.length_replicate]
 split
 ·rename_i h
  rw [if_neg (by omega),List.getElem?_replicate_of_lt h];rfl
 ·rename_i h
  rw [if_pos (by omega)]
theorem getD_pmul_cons (a:Int) (p q:List Int) (i:Nat):(pmul (a::p) q).getD i 0=a*q.getD i 0+(shiftP 1 (pmul p q)).getD i 0:=by
 simp only [pmul]
 rw [getD_padd,getD_psmul];rfl
theorem pmul_top:∀ (p q:List Int),p ≠ []→q ≠ []→(pmul p q).getD (p.length+q.length-2) 0=top p*top q∧∀ i,p.length+q.length-1≤i→(pmul p q).getD i 0=0
 | [],q,h,_=>absurd rfl h
 | [a],q,_,hq=>by
  have hq1:=List.length_pos_iff.2 hq
  refine ⟨?_,fun i hi => ?_⟩
  ·rw [getD_pmul_cons,getD_shiftP,show [a].length+q.length-2=q.length-1 by simp;omega]
   simp [pmul,top]
  ·rw [getD_pmul_cons,getD_shiftP,getD_end (show q.length≤i by simp at hi;omega)]
   simp [pmul]
 | a::b::p,q,_,hq=>by
  have hq1:=List.length_pos_iff.2 hq
  obtain ⟨h1,h2⟩:=pmul_top (b::p) q (by simp) hq
  refine ⟨?_,fun i hi => ?_⟩
  ·rw [getD_pmul_cons,getD_shiftP,if_pos (by simp;omega)]
   simp only [List.length_cons] at *
   rw [getD_end (show q.length≤p.length+1+1+q.length-2 by omega),show p.length+1+1+q.length-2-1=p.length+1+q.length-2 by omega,h1]
   simp [top]
  ·rw [getD_pmul_cons,getD_shiftP]
   simp only [List.length_cons] at *
   rw [getD_end (show q.length≤i by omega)]
   split
   ·rw [h2 _ (by omega)];simp
   ·simp
theorem peval_zero_of_trim {p:List Int} (h:trimL p=[]) (x:Int):peval p x=0:=by rw [← peval_trim,h];rfl
theorem psmul_length (a:Int) (q:List Int):(psmul a q).length=q.length:=by simp [psmul]
end Go.Ai

namespace Go.Proofs.Ythnnfemologhfaa
open Go.IntKind (i64 u64 u32)
open Go.Ai
set_option maxRecDepth 100000
theorem blen_one {n:Nat}:blen n=1↔n=1:=by
 unfold blen
 split
 ·omega
 ·rename_i h
  constructor
  ·intro h1
   have h2:Nat.log2 n=0:=by omega
   have:=(Nat.log2_eq_iff h).1 h2
   omega
  ·rintro rfl;decide
theorem blen_gt {n:Nat}:1<blen n↔1<n:=by
 have h1:=blen_one (n:=n)
 have h0:blen n=0↔n=0:=by unfold blen;split <;> omega
 omega
theorem cn_len (n:Int):(cn n).2.length=(limbs n.natAbs).length:=rfl
theorem drop_vals {rs:List Rn} {n:Nat} (h:n<rs.length):(vals rs).drop n=rval (rs.getD n z0)::(vals rs).drop (n+1):=by
 rw [List.drop_eq_getElem_cons (by rw [vals_length];exact h)]
 congr 1
 rw [← vals_getD,List.getD_eq_getElem?_getD,List.getElem?_eq_getElem (by rw [vals_length];exact h)];rfl
theorem cont_le {K:Nat} {p:List Int} (h:∀ x∈p,Fits K x):Fits K ((cont p:Nat):Int):=by
 by_cases h0:trimL p=[]
 ·rw [cont_zero.2 (trim_nil.1 h0)];exact fits_zero K
 ·have hc:=cont_pos h0
  have:∃ i,p.getD i 0 ≠ 0:=Classical.byContradiction fun hn=>h0 (trim_nil.2 fun i=>Classical.byContradiction fun hi=>hn ⟨i,hi⟩)
  obtain ⟨i,hi⟩:=this
  have hd:=cont_dvd p i
  have hf:=fits_getD h i
  unfold Fits at *
  rw [Int.natAbs_natCast]
  have:=Nat.le_of_dvd (by omega) (Int.ofNat_dvd_left.1 hd)
  omega
theorem cont_drop {p:List Int} (n:Nat):cont p∣cont (p.drop n):=by
 rw [dvd_cont]
 intro i
 have:=cont_dvd p (n+i)
 rw [List.getD_eq_getElem?_getD] at this ⊢
 rwa [List.getElem?_drop]
theorem Yloop85 {K:Nat} {rs:List Rn} {z:Rn} (hg:∀ r∈rs,Good K r) (hK:K<1048576) (hN:rs.length≤1048576):∀ n,n≤rs.length →
  ∃ i',RunsW Yir (.loop Yc85) (Ys85 rs (cn (cont ((vals rs).drop n):Nat)) ((n:Int)-1) z) (.exit 0) (Ys85 rs (cn (cont (vals rs):Nat)) i' z):=by
 intro n
 induction n with
 | zero =>
  intro _
  rw [List.drop_zero]
  exact ⟨_,RunsW.loop_out (Yk85_3 rs _ _ z (by simp)) (by intro e;cases e)⟩
 | succ n ih =>
  intro hn
  have e0:((n+1:Nat):Int)-1=(n:Int):=by omega
  have e1:i64.wrap ((n:Int)-1)=(n:Int)-1:=w64 (by omega) (by omega)
  have hf:Fits K ((cont ((vals rs).drop (n+1)):Nat):Int):=cont_le fun x hx=>fits_vals hg x (List.mem_of_mem_drop hx)
  have hl:=hf.len
  have hb:=wbits_run (neg:=(cn (cont ((vals rs).drop (n+1)):Nat)).1) (xs:=(cn (cont ((vals rs).drop (n+1)):Nat)).2) (big_u32 _) (by rw [cn_len];omega)
  rw [show rv (cn (cont ((vals rs).drop (n+1)):Nat)).1 (cn (cont ((vals rs).drop (n+1)):Nat)).2=(cont ((vals rs).drop (n+1)):Nat) from rval_cn _,Int.natAbs_natCast] at hb
  rw [e0]
  by_cases h1:cont ((vals rs).drop (n+1))=1
  ·have hc:cont (vals rs)=1:=by
    have:=cont_drop (p:=vals rs) (n+1)
    rw [h1] at this
    exact Nat.dvd_one.1 this
   rw [h1] at hb ⊢
   rw [hc]
   exact ⟨_,RunsW.loop_out (Yk85_2 rs _ (n:Nat) z _ (by simp) (by decide) hb) (by intro e;cases e)⟩
  ·obtain ⟨g1,g2⟩:=good_getD hg n
   have hgc:=wgcd_run (na:=(cn (cont ((vals rs).drop (n+1)):Nat)).1) (nb:=(rs.getD n z0).1) (xs:=(cn (cont ((vals rs).drop (n+1)):Nat)).2) (ys:=(rs.getD n z0).2) (big_u32 _) g1 (by rw [cn_len];omega) (by omega)
   rw [show rv (cn (cont ((vals rs).drop (n+1)):Nat)).1 (cn (cont ((vals rs).drop (n+1)):Nat)).2=(cont ((vals rs).drop (n+1)):Nat) from rval_cn _,show rv (rs.getD n z0).1 (rs.getD n z0).2=rval (rs.getD n z0) from rfl] at hgc
   have hstep:(Int.gcd ((cont ((vals rs).drop (n+1)):Nat):Int) (rval (rs.getD n z0)))=cont ((vals rs).drop n):=by
    rw [drop_vals (n:=n) (by omega),cont,Int.gcd,Int.natAbs_natCast,Nat.gcd_comm]
   rw [hstep] at hgc
   have k1:=Yk85_1 rs (cn (cont ((vals rs).drop (n+1)):Nat)) (n:Nat) z _ _ (by simp) (by
    rw [bne_iff_ne]
    have:=blen_one (n:=cont ((vals rs).drop (n+1)))
    omega) (by omega) hb (by rw [Int.toNat_natCast];exact hgc)
   rw [e1] at k1
   obtain ⟨i',h⟩:=ih (by omega)
   exact ⟨i',RunsW.loop k1 h⟩
theorem acontent_run {K:Nat} {rs:List Rn} (hg:∀ r∈rs,Good K r) (hK:K<1048576) (hN:rs.length≤1048576):Runs Yir 85 [.sl rs.length (pc rs)] (bigAV (cont (vals rs):Nat)):=by
 obtain ⟨i',h⟩:=Yloop85 (z:=z0) hg hK hN rs.length (Nat.le_refl _)
 rw [show (vals rs).drop rs.length=[] by rw [← vals_length,List.drop_length],show cn ((cont []:Nat):Int)=z0 from rfl] at h
 exact Yrun85 rs (cn (cont (vals rs):Nat)) z0 i' (by rw [w64 (by omega) (by omega)];exact h)
theorem tdiv_exact {x g:Int} (hg:0<g) (h:g∣x):Int.tdiv x g=x / g:=by
 obtain ⟨y,rfl⟩:=h
 rw [Int.mul_tdiv_cancel_left _ (by omega),Int.mul_ediv_cancel_left _ (by omega)]
theorem aprimitive_run {K:Nat} {rs:List Rn} (hg:∀ r∈rs,Good K r) (hK:K<1048576) (hN:rs.length≤1048576):Runs Yir 86 [.sl rs.length (pc rs)] (.fresh 2 (prim (vals rs)).length (pk (prim (vals rs)))):=by
 have ht:=atrim_run (fun r h=>(hg r h).mono (show K≤1048576 by omega)) hN
 have hfT:∀ x∈trimL (vals rs),Fits K x:=fits_mem_trim (fits_vals hg)
 have gts:=good_cns hfT
 have hvs:=vals_cn (trimL (vals rs))
 have hll:=trim_len (vals rs)
 rw [vals_length] at hll
 have hpk:pk (trimL (vals rs))=pc ((trimL (vals rs)).map cn):=rfl
 rw [hpk,← List.length_map (f:=cn)] at ht
 have hlm:((trimL (vals rs)).map cn).length=(trimL (vals rs)).length:=List.length_map ..
 have hc:=acontent_run gts hK (by omega)
 rw [hvs,cont_trim] at hc
 have hfc:Fits K ((cont (vals rs):Nat):Int):=cont_le (fits_vals hg)
 have hlc:=hfc.len
 have hb:=wbits_run (neg:=(cn (cont (vals rs):Nat)).1) (xs:=(cn (cont (vals rs):Nat)).2) (big_u32 _) (by rw [cn_len];omega)
 rw [show rv (cn (cont (vals rs):Nat)).1 (cn (cont (vals rs):Nat)).2=(cont (vals rs):Nat) from rval_cn _,Int.natAbs_natCast] at hb
 by_cases h1:1<cont (vals rs)
 ·have hgd:∀ t,rval (((trimL (vals rs)).map cn).getD t z0)=(trimL (vals rs)).getD t 0:=fun t=>by rw [← vals_getD,hvs]
  have key:∀ ts:List Rn,ts.length=(trimL (vals rs)).length→(∀ r∈ts,Good K r)→(∀ t,rval (ts.getD t z0)=(trimL (vals rs)).getD t 0) →
    RunsW Yir (.loop Yc86) (Ys86 ts.length ts (cn (cont (vals rs):Nat)) (ts.length:Nat) 0) (.exit 0) (Ys86 ts.length ((prim (vals rs)).map cn) (cn (cont (vals rs):Nat)) (ts.length:Nat) (ts.length:Nat)):=by
   intro ts hl gt hv
   have hlp:((prim (vals rs)).map cn).length=ts.length:=by rw [List.length_map,prim_length,hl]
   have h:=RunsW.up (prog:=Yir) (c:=Yc86) (ex := .exit 0) (fin:=Ys86 ts.length ((prim (vals rs)).map cn) (cn (cont (vals rs):Nat)) (ts.length:Nat) (ts.length:Nat))
    (fun i=>Ys86 ts.length (((prim (vals rs)).map cn).take i++ts.drop i) (cn (cont (vals rs):Nat)) (ts.length:Nat) (i:Nat)) ts.length (by intro e;cases e) ?_ ?_ 0 (Nat.zero_le _)
   ·exact h
   ·intro i hi
    have ei:i64.wrap ((i:Int)+1)=((i+1:Nat):Int):=by rw [w64 (by omega) (by omega)];omega
    have hlen:(((prim (vals rs)).map cn).take i++ts.drop i).length=ts.length:=by rw [List.length_append,List.length_take,List.length_drop];omega
    have hget:(((prim (vals rs)).map cn).take i++ts.drop i).getD i z0=ts.getD i z0:=by
     rw [List.getD_eq_getElem?_getD,List.getD_eq_getElem?_getD,List.getElem?_append_right (by rw [List.length_take];omega),List.length_take,List.getElem?_drop]
     congr 2;omega
    obtain ⟨g1,g2⟩:=good_getD gt i
    have hq:=wquo_run (na:=(ts.getD i z0).1) (nb:=(cn (cont (vals rs):Nat)).1) (xs:=(ts.getD i z0).2) (ys:=(cn (cont (vals rs):Nat)).2) g1 (big_u32 _) (by rw [show rv (cn (cont (vals rs):Nat)).1 (cn (cont (vals rs):Nat)).2=(cont (vals rs):Nat) from rval_cn _];omega) (by omega) (by rw [cn_len];omega)
    rw [show rv (cn (cont (vals rs):Nat)).1 (cn (cont (vals rs):Nat)).2=(cont (vals rs):Nat) from rval_cn _,show rv (ts.getD i z0).1 (ts.getD i z0).2=rval (ts.getD i z0) from rfl,hv,getD_trim] at hq
    have k:=Yk86_1 ts.length (((prim (vals rs)).map cn).take i++ts.drop i) (cn (cont (vals rs):Nat)) (ts.length:Nat) (i:Nat) _ _ (by simp;omega) (by omega) hlen (by rw [Int.toNat_natCast,hget];exact hq)
    refine k.to rfl ?_
    rw [ei,Int.toNat_natCast,tdiv_exact (by omega) (cont_dvd (vals rs) i),← getD_prim]
    congr 1
    apply List.ext_getElem?
    intro t
    have hpi:((prim (vals rs)).map cn)[i]?=some (cn ((prim (vals rs)).getD i 0)):=by
     rw [List.getElem?_map,List.getD_eq_getElem?_getD,List.getElem?_eq_getElem (by rw [List.length_map] at hlp;omega)];rfl
    rcases Nat.lt_trichotomy t i with g | g | g
    ·rw [List.getElem?_set_ne (by omega),List.getElem?_append_left (by rw [List.length_take];omega),List.getElem?_append_left (by rw [List.length_take];omega),List.getElem?_take_of_lt g,List.getElem?_take_of_lt (by omega)]
    ·subst g
     rw [List.getElem?_set_self (by omega),List.getElem?_append_left (by rw [List.length_take];omega),List.getElem?_take_of_lt (by omega),hpi]
    ·rw [List.getElem?_set_ne (by omega),List.getElem?_append_right (by rw [List.length_take];omega),List.getElem?_append_right (by rw [List.length_take];omega),List.length_take,List.length_take,List.getElem?_drop,List.getElem?_drop]
     congr 1;omega
   ·rw [List.take_of_length_le (by omega),List.drop_length,List.append_nil]
    exact Yk86_2 ts.length _ _ (ts.length:Nat) (ts.length:Nat) (by simp)
  have hl:=key _ hlm gts hgd
  have h:=Yrun86_1 rs ((trimL (vals rs)).map cn) _ _ _ _ _ _ _ (by rw [decide_eq_true_eq];have:=(blen_gt (n:=cont (vals rs))).2 h1;omega) ht (pc_noI _) (big_intsOnly _) hc hb hl
  rw [hlm,← prim_length] at h
  exact h
 ·have h:=Yrun86_2 rs ((trimL (vals rs)).map cn) _ _ (by rw [decide_eq_false_iff_not];have:=(blen_gt (n:=cont (vals rs))).1;omega) ht (pc_noI _) (big_intsOnly _) hc hb
  have hp:prim (vals rs)=trimL (vals rs):=by
   rcases Nat.eq_zero_or_pos (cont (vals rs)) with g | g
   ·rw [prim_nil.2 (cont_zero.1 g),trim_nil.2 (cont_zero.1 g)]
   ·exact prim_one (by omega)
  rw [hp]
  rw [hlm] at h
  exact h
theorem aderived_run {K:Nat} {rs:List Rn} (hg:∀ r∈rs,Good K r) (hK:K+2≤1048576) (hN:rs.length≤1048576):Runs Yir 75 [.sl rs.length (pc rs)] (.fresh 2 (pder (vals rs)).length (pk (pder (vals rs)))):=by
 have hd:=degree_run (fun r h=>(hg r h).mono (show K≤1048576 by omega)) hN
 have hle:=topN_le (vals rs) rs.length
 have hl:=RunsW.up (prog:=Yir) (c:=Yc75) (ex := .exit 0) (fin:=Ys75 rs (topN (vals rs) rs.length-1) (pc ((List.range (topN (vals rs) rs.length-1)).map fun j=>cn (rval (rs.getD (j+1) z0)*((j+1:Nat):Int)))) ((topN (vals rs) rs.length-1+1:Nat):Int))
  (fun i=>Ys75 rs i (pc ((List.range i).map fun j=>cn (rval (rs.getD (j+1) z0)*((j+1:Nat):Int)))) ((i+1:Nat):Int)) (topN (vals rs) rs.length-1) (by intro e;cases e) ?_ ?_ 0 (Nat.zero_le _)
 ·have hfit:∀ r∈(List.range (topN (vals rs) rs.length-1)).map (fun j=>cn (rval (rs.getD (j+1) z0)*((j+1:Nat):Int))),Good 1048576 r:=by
   intro r hr
   obtain ⟨j,hj,rfl⟩:=List.mem_map.1 hr
   rw [List.mem_range] at hj
   have h2:Fits 2 ((j+1:Nat):Int):=fits_i64 (by omega)
   exact (good_cn ((good_getD hg (j+1)).fits.mul h2)).mono (by omega)
  have ht:=atrim_run hfit (by rw [List.length_map,List.length_range];omega)
  have hlen:((List.range (topN (vals rs) rs.length-1)).map (fun j=>cn (rval (rs.getD (j+1) z0)*((j+1:Nat):Int)))).length=topN (vals rs) rs.length-1:=by rw [List.length_map,List.length_range]
  have e:trimL (vals ((List.range (topN (vals rs) rs.length-1)).map (fun j=>cn (rval (rs.getD (j+1) z0)*((j+1:Nat):Int)))))=pder (vals rs):=by
   unfold pder
   apply trim_ext
   intro i
   rw [vals_range,getD_range,rval_cn,vals_getD,vals_length]
   by_cases h1:i<topN (vals rs) rs.length-1
   ·rw [if_pos h1,if_pos (by omega)]
   ·rw [if_neg h1]
    split
    ·have:rval (rs.getD (i+1) z0)=0:=by rw [← vals_getD];exact topN_zero (vals rs) rs.length (i+1) (by omega) (by omega)
     rw [this,Int.zero_mul]
    ·rfl
  rw [e,hlen] at ht
  have hpk:pk (pder (vals rs))=pc ((pder (vals rs)).map cn):=rfl
  rw [hpk,← List.length_map (f:=cn)] at ht ⊢
  exact Yrun75 rs _ _ _ _ hl ht
 ·intro i hi
  have ei:i64.wrap (((i+1:Nat):Int)+1)=((i+1+1:Nat):Int):=by rw [w64 (by omega) (by omega)];omega
  obtain ⟨g1,g2⟩:=good_getD hg (i+1)
  have ho:=wof_run (n:=((i+1:Nat):Int)) (by omega)
  have hfi:Fits 2 ((i+1:Nat):Int):=fits_i64 (by omega)
  have hm:=wmul_run (na:=(rs.getD (i+1) z0).1) (nb:=decide (((i+1:Nat):Int)<0)) (xs:=(rs.getD (i+1) z0).2) (ys:=limbs ((i+1:Nat):Int).natAbs) g1 (big_u32 _) (by have:=hfi.len;omega)
  rw [rv_big] at hm
  have k:=Yk75_1 rs i (pc ((List.range i).map fun j=>cn (rval (rs.getD (j+1) z0)*((j+1:Nat):Int)))) ((i+1:Nat):Int) (((topN (vals rs) rs.length:Nat):Int)-1) (rval (rs.getD (i+1) z0)*((i+1:Nat):Int)) (by simp;omega) (by omega) (by omega) hd ho (by rw [Int.toNat_natCast];exact hm)
  refine k.to rfl ?_
  rw [ei]
  congr 1
  rw [List.range_succ,List.map_append,pc_append]
  rfl
 ·exact Yk75_2 rs _ _ _ _ (by rw [decide_eq_false_iff_not];omega) hd
def TRB:Table:=TRA
theorem TRB_holds:THolds Yir TRB:=TRA_holds
end Go.Proofs.Ythnnfemologhfaa

namespace Go.Proofs.Ythnnfemologhfaa
open Go.IntKind (i64 u64 u32)
open Go.Ai
set_option maxRecDepth 100000
theorem lz_len {n:Int} {xs:List Int} (hu:U32 xs) (h0:0≤n) (h:n≤valL xs):(lz n).length≤xs.length :=
 limbs_len (by have:=valL_lt hu;omega)
theorem lz_val {n:Int} (h:0≤n):valL (lz n)=n:=by unfold lz;rw [limbs_val];omega
theorem rdiv_run {na nb:Bool} {xs ys:List Int} (hx:U32 xs) (hy:U32 ys) (h0:rv nb ys ≠ 0) (h1:xs.length<1000000) (h2:ys.length<1000000) :
  Runs Yir 131 [.agg [.bool na, .sl xs.length (lm xs)], .agg [.bool nb, .sl ys.length (lm ys)]] (.tup [bigAV (Int.tdiv (rv na xs) (rv nb ys)),bigAV (Int.tmod (rv na xs) (rv nb ys))]):=by
 have cx:=trimL_canon hx
 have cy:=trimL_canon hy
 have t1:=trim_len xs
 have t2:=trim_len ys
 have hX:=valL_nonneg hx
 have hY:0<valL ys:=by
  have:=valL_nonneg hy
  rcases Int.lt_or_le 0 (valL ys) with h | h
  ·exact h
  ·have hz:valL ys=0:=by omega
   exact absurd (by unfold rv;rw [hz];cases nb <;> rfl) h0
 have hy0:trimL ys ≠ []:=by
  intro e
  have:=trimL_val ys
  rw [e] at this
  simp only [valL] at this
  omega
 have hd:=divMag_run cx cy hy0 (by omega) (by omega)
 rw [trimL_val,trimL_val] at hd
 have hq0:0≤valL xs / valL ys:=Int.ediv_nonneg hX (by omega)
 have hq1:valL xs / valL ys≤valL xs:=Int.ediv_le_self _ hX
 have hr0:=Int.emod_nonneg (valL xs) (show valL ys ≠ 0 by omega)
 have hr1:valL xs % valL ys≤valL xs:=by
  have:=Int.mul_ediv_add_emod (valL xs) (valL ys)
  have:=Int.mul_nonneg (show 0≤valL ys by omega) hq0
  omega
 have l1:=lz_len hx hq0 hq1
 have l2:=lz_len hx hr0 hr1
 have m1:=mk1_run (neg := !(na==nb)) (xs:=lz (valL xs / valL ys)) (big_u32 _) (by omega)
 have m2:=mk1_run (neg:=na) (xs:=lz (valL xs % valL ys)) (big_u32 _) (by omega)
 have e1:rv (!(na==nb)) (lz (valL xs / valL ys))=Int.tdiv (rv na xs) (rv nb ys):=by
  unfold rv
  rw [lz_val hq0,← Int.tdiv_eq_ediv_of_nonneg hX]
  cases na <;> cases nb <;> simp [Int.neg_tdiv,Int.tdiv_neg]
 have e2:rv na (lz (valL xs % valL ys))=Int.tmod (rv na xs) (rv nb ys):=by
  unfold rv
  rw [lz_val hr0,← Int.tmod_eq_emod_of_nonneg hX]
  cases na <;> cases nb <;> simp [Int.neg_tmod,Int.tmod_neg]
 rw [e1] at m1
 rw [e2] at m2
 exact Yrun131 na nb xs ys _ _ _ _ (mag_run (by omega)) (mag_run (by omega)) hd m1 m2
theorem cn_u32 (n:Int):U32 (cn n).2:=big_u32 _
theorem rv_cn (n:Int):rv (cn n).1 (cn n).2=n:=rval_cn n
theorem Yloop130:∀ (n X Y:Nat),Y≤n→(limbs X).length<1000000→(limbs Y).length<1000000→RunsW Yir (.loop Ycn130) (Ysn130 (cn (X:Nat)) (cn (Y:Nat))) (.exit 0) (Ysn130 (cn (Nat.gcd X Y:Nat)) (cn 0)):=by
 intro n
 induction n with
 | zero =>
  intro X Y hY _ _
  have:Y=0:=by omega
  subst this
  rw [Nat.gcd_zero_right]
  exact RunsW.loop_out (Ykn130_2 (cn (X:Nat)) (cn 0) (by decide) (rsign_run (neg:=(cn 0).1) (xs:=(cn 0).2) (cn_u32 _) (by decide))) (by intro e;cases e)
 | succ n ih =>
  intro X Y hY h1 h2
  by_cases h0:Y=0
  ·subst h0
   rw [Nat.gcd_zero_right]
   exact RunsW.loop_out (Ykn130_2 (cn (X:Nat)) (cn 0) (by decide) (rsign_run (neg:=(cn 0).1) (xs:=(cn 0).2) (cn_u32 _) (by decide))) (by intro e;cases e)
  ·have hs:=rsign_run (neg:=(cn (Y:Nat)).1) (xs:=(cn (Y:Nat)).2) (big_u32 _) (by rw [cn_len,Int.natAbs_natCast];omega)
   have hd:=rdiv_run (na:=(cn (X:Nat)).1) (nb:=(cn (Y:Nat)).1) (xs:=(cn (X:Nat)).2) (ys:=(cn (Y:Nat)).2) (big_u32 _) (big_u32 _) (by rw [rv_cn];omega) (by rw [cn_len,Int.natAbs_natCast];omega) (by rw [cn_len,Int.natAbs_natCast];omega)
   rw [rv_cn,rv_cn] at hd
   rw [rv_cn] at hs
   have em:Int.tmod (X:Int) (Y:Int)=((X % Y:Nat):Int):=by rw [Int.tmod_eq_emod_of_nonneg (by omega)];omega
   rw [em] at hd
   have k:=Ykn130_1 (cn (X:Nat)) (cn (Y:Nat)) _ _ (by rw [rval_cn,bne_iff_ne];unfold sgnI; (repeat' split) <;> omega) (by rw [rval_cn];exact hs) hd
   have hlt:X % Y<Y:=Nat.mod_lt _ (by omega)
   have hle:(limbs (X % Y)).length≤(limbs Y).length:=by
    apply limbs_len
    have:=valL_lt (limbs_canon Y).1
    rw [limbs_val] at this
    omega
   have r:=ih Y (X % Y) (by omega) h2 (by omega)
   rw [Nat.gcd_comm X Y,Nat.gcd_rec Y X,Nat.gcd_comm (X % Y) Y]
   exact RunsW.loop k r
theorem rcommon_run {na nb:Bool} {xs ys:List Int} (hx:U32 xs) (hy:U32 ys) (h1:xs.length<1000000) (h2:ys.length<1000000) :
  Runs Yir 130 [.agg [.bool na, .sl xs.length (lm xs)], .agg [.bool nb, .sl ys.length (lm ys)]] (bigAV (Int.gcd (rv na xs) (rv nb ys):Nat)):=by
 have m1:=mk1_run (neg:=false) hx (by omega)
 have m2:=mk1_run (neg:=false) hy (by omega)
 have l1:=rv_len (neg:=na) hx
 have l2:=rv_len (neg:=nb) hy
 have e1:rv false xs=(((rv na xs).natAbs:Nat):Int):=by
  have:=valL_nonneg hx
  unfold rv;cases na <;> simp <;> omega
 have e2:rv false ys=(((rv nb ys).natAbs:Nat):Int):=by
  have:=valL_nonneg hy
  unfold rv;cases nb <;> simp <;> omega
 rw [e1] at m1
 rw [e2] at m2
 exact Yrun130 na nb xs ys _ _ _ _ m1 m2 (Yloop130 _ (rv na xs).natAbs (rv nb ys).natAbs (Nat.le_refl _) (by omega) (by omega))
theorem cont_append (a b:List Int):cont (a++b)=Nat.gcd (cont a) (cont b):=by
 induction a with
 | nil=>simp [cont]
 | cons x a ih=>simp only [List.cons_append,cont,ih,Nat.gcd_assoc]
theorem take_succ_vals {rs:List Rn} {i:Nat} (h:i<rs.length):(vals rs).take (i+1)=(vals rs).take i++[rval (rs.getD i z0)]:=by
 rw [List.take_succ_eq_append_getElem (by rw [vals_length];exact h)]
 congr 2
 rw [← vals_getD,List.getD_eq_getElem?_getD,List.getElem?_eq_getElem (by rw [vals_length];exact h)];rfl
theorem qinner_run {K:Nat} {rs:List Rn} (hg:∀ r∈rs,Good K r) (hK:K<1000000) (hN:rs.length≤1048576):Runs Yir 90 [.sl rs.length (pc rs)] (bigAV (cont (vals rs):Nat)):=by
 have h:=RunsW.up (prog:=Yir) (c:=Yc90) (ex := .exit 0) (fin:=Ys90 rs (cn (cont (vals rs):Nat)) (rs.length:Nat))
  (fun i=>Ys90 rs (cn (cont ((vals rs).take i):Nat)) (i:Nat)) rs.length (by intro e;cases e) ?_ ?_ 0 (Nat.zero_le _)
 ·exact Yrun90 rs (cn (cont (vals rs):Nat)) _ h
 ·intro i hi
  have ei:i64.wrap ((i:Int)+1)=((i+1:Nat):Int):=by rw [w64 (by omega) (by omega)];omega
  obtain ⟨g1,g2⟩:=good_getD hg i
  have hf:Fits K ((cont ((vals rs).take i):Nat):Int):=cont_le fun x hx=>fits_vals hg x (List.mem_of_mem_take hx)
  have hl:=hf.len
  have hc:=rcommon_run (na:=(cn (cont ((vals rs).take i):Nat)).1) (nb:=(rs.getD i z0).1) (xs:=(cn (cont ((vals rs).take i):Nat)).2) (ys:=(rs.getD i z0).2) (big_u32 _) g1 (by rw [cn_len];omega) (by omega)
  rw [rv_cn] at hc
  have k:=Yk90_1 rs (cn (cont ((vals rs).take i):Nat)) (i:Nat) _ (by simp;omega) (by omega) (by rw [Int.toNat_natCast];exact hc)
  refine k.to rfl ?_
  rw [ei,take_succ_vals hi,cont_append]
  congr 2
  show ((Nat.gcd (((cont ((vals rs).take i):Nat):Int)).natAbs (rval (rs.getD i z0)).natAbs:Nat):Int)=_
  rw [Int.natAbs_natCast]
  simp [cont]
 ·rw [List.take_of_length_le (by rw [vals_length];omega)]
  exact Yk90_2 rs _ _ (by simp)
theorem pc_map_snoc (g:Nat→Int) (i:Nat):pc ((List.range i).map fun j=>cn (g j))++([.bool (decide (g i<0)), .sl (limbs (g i).natAbs).length (lm (limbs (g i).natAbs))]:List AV)=pc ((List.range (i+1)).map fun j=>cn (g j)):=by
 rw [map_range_succ (fun j=>cn (g j)),← pc_snoc];rfl
theorem fits_tdiv {K:Nat} {x:Int} (h:Fits K x) (c:Int):Fits K (Int.tdiv x c):=by
 unfold Fits at *
 have:(Int.tdiv x c).natAbs=x.natAbs / c.natAbs:=Int.natAbs_tdiv x c
 have:=Nat.div_le_self x.natAbs c.natAbs
 omega
theorem qprim_run {K:Nat} {rs:List Rn} (hg:∀ r∈rs,Good K r) (hK:K<1000000) (hN:rs.length≤1048576):Runs Yir 91 [.sl rs.length (pc rs)] (.fresh 2 (prim (vals rs)).length (pk (prim (vals rs)))):=by
 have hi:=qinner_run hg hK hN
 have hfc:Fits K ((cont (vals rs):Nat):Int):=cont_le (fits_vals hg)
 have hlc:=hfc.len
 have hs:=rsign_run (neg:=(cn (cont (vals rs):Nat)).1) (xs:=(cn (cont (vals rs):Nat)).2) (big_u32 _) (by rw [cn_len];omega)
 rw [rv_cn] at hs
 by_cases h0:cont (vals rs)=0
 ·rw [prim_nil.2 (cont_zero.1 h0)]
  exact Yrun91_1 rs _ (by rw [h0];rfl) hi hs
 ·have h:=RunsW.up (prog:=Yir) (c:=Yc91) (ex := .exit 0) (fin:=Ys91 rs (cn (cont (vals rs):Nat)) rs.length (pc ((List.range rs.length).map fun j=>cn (Int.tdiv (rval (rs.getD j z0)) (cont (vals rs):Nat)))) (rs.length:Nat))
   (fun i=>Ys91 rs (cn (cont (vals rs):Nat)) i (pc ((List.range i).map fun j=>cn (Int.tdiv (rval (rs.getD j z0)) (cont (vals rs):Nat)))) (i:Nat)) rs.length (by intro e;cases e) ?_ ?_ 0 (Nat.zero_le _)
  ·have hgo:∀ r∈(List.range rs.length).map (fun j=>cn (Int.tdiv (rval (rs.getD j z0)) (cont (vals rs):Nat))),Good 1048576 r:=good_fill fun j _=>(good_cn (fits_tdiv (good_getD hg j).fits _)).mono (by omega)
   have ht:=qtrim_run hgo (by rw [List.length_map,List.length_range];exact hN)
   have e:trimL (vals ((List.range rs.length).map (fun j=>cn (Int.tdiv (rval (rs.getD j z0)) (cont (vals rs):Nat)))))=prim (vals rs):=by
    rw [← lead_prim (vals rs)]
    apply trim_ext
    intro i
    rw [vals_range,rval_cn,getD_prim,← vals_getD]
    by_cases h1:i<rs.length
    ·rw [if_pos h1,tdiv_exact (by omega) (cont_dvd _ _)]
    ·rw [if_neg h1,getD_end (by rw [vals_length];omega),Int.zero_ediv]
   rw [e,List.length_map,List.length_range] at ht
   have hpk:pk (prim (vals rs))=pc ((prim (vals rs)).map cn):=rfl
   rw [hpk,← List.length_map (f:=cn)] at ht ⊢
   exact Yrun91_2 rs _ _ _ _ _ (by rw [beq_eq_false_iff_ne];unfold sgnI; (repeat' split) <;> omega) hi hs h ht
  ·intro i hi2
   have ei:i64.wrap ((i:Int)+1)=((i+1:Nat):Int):=by rw [w64 (by omega) (by omega)];omega
   obtain ⟨g1,g2⟩:=good_getD hg i
   have hd:=rdiv_run (na:=(rs.getD i z0).1) (nb:=(cn (cont (vals rs):Nat)).1) (xs:=(rs.getD i z0).2) (ys:=(cn (cont (vals rs):Nat)).2) g1 (big_u32 _) (by rw [rv_cn];omega) (by omega) (by rw [cn_len];omega)
   rw [rv_cn] at hd
   have k:=Yk91_1 rs (cn (cont (vals rs):Nat)) i (pc ((List.range i).map fun j=>cn (Int.tdiv (rval (rs.getD j z0)) (cont (vals rs):Nat)))) (i:Nat) _ _ (by simp;omega) (by omega) (by omega) (by rw [Int.toNat_natCast];exact hd)
   refine k.to rfl ?_
   rw [ei,← pc_map_snoc (fun j=>Int.tdiv (rval (rs.getD j z0)) (cont (vals rs):Nat)) i]
   rfl
  ·exact Yk91_2 rs _ _ _ _ (by simp)
theorem qder_run {K:Nat} {rs:List Rn} (hg:∀ r∈rs,Good K r) (hK:K+2≤1000000) (hN:rs.length≤1048576):Runs Yir 89 [.sl rs.length (pc rs)] (.fresh 2 (pder (vals rs)).length (pk (pder (vals rs)))):=by
 have h:=RunsW.up (prog:=Yir) (c:=Yc89) (ex := .exit 0) (fin:=Ys89 rs (rs.length-1) (pc ((List.range (rs.length-1)).map fun j=>cn (((j+1:Nat):Int)*rval (rs.getD (j+1) z0)))) ((rs.length-1+1:Nat):Int))
  (fun i=>Ys89 rs i (pc ((List.range i).map fun j=>cn (((j+1:Nat):Int)*rval (rs.getD (j+1) z0)))) ((i+1:Nat):Int)) (rs.length-1) (by intro e;cases e) ?_ ?_ 0 (Nat.zero_le _)
 ·have hgo:∀ r∈(List.range (rs.length-1)).map (fun j=>cn (((j+1:Nat):Int)*rval (rs.getD (j+1) z0))),Good 1048576 r:=good_fill fun j hj=>by
   have h2:Fits 2 ((j+1:Nat):Int):=fits_i64 (by omega)
   exact (good_cn (h2.mul (good_getD hg (j+1)).fits)).mono (by omega)
  have ht:=qtrim_run hgo (by rw [List.length_map,List.length_range];omega)
  have e:trimL (vals ((List.range (rs.length-1)).map (fun j=>cn (((j+1:Nat):Int)*rval (rs.getD (j+1) z0)))))=pder (vals rs):=by
   unfold pder
   apply trim_ext
   intro i
   rw [vals_range,getD_range,rval_cn,vals_getD,vals_length,Int.mul_comm]
  rw [e,List.length_map,List.length_range] at ht
  have hpk:pk (pder (vals rs))=pc ((pder (vals rs)).map cn):=rfl
  rw [hpk,← List.length_map (f:=cn)] at ht ⊢
  exact Yrun89 rs _ _ _ _ h ht
 ·intro i hi
  have ei:i64.wrap (((i+1:Nat):Int)+1)=((i+1+1:Nat):Int):=by rw [w64 (by omega) (by omega)];omega
  obtain ⟨g1,g2⟩:=good_getD hg (i+1)
  have ho:=of_run (n:=((i+1:Nat):Int)) (by omega)
  have hfi:Fits 2 ((i+1:Nat):Int):=fits_i64 (by omega)
  have hm:=rtimes_run (na:=(cn ((i+1:Nat):Int)).1) (nb:=(rs.getD (i+1) z0).1) (xs:=(cn ((i+1:Nat):Int)).2) (ys:=(rs.getD (i+1) z0).2) (cn_u32 _) g1 (by rw [cn_len];have:=hfi.len;omega)
  rw [rv_cn] at hm
  have k:=Yk89_1 rs i (pc ((List.range i).map fun j=>cn (((j+1:Nat):Int)*rval (rs.getD (j+1) z0)))) ((i+1:Nat):Int) (by simp;omega) (by omega) (by omega) ho (by rw [Int.toNat_natCast];exact hm)
  refine k.to rfl ?_
  rw [ei,← pc_map_snoc (fun j=>((j+1:Nat):Int)*rval (rs.getD (j+1) z0)) i,Int.toNat_natCast]
 ·exact Yk89_2 rs _ _ _ (by rw [decide_eq_false_iff_not];omega)
theorem qneg_run {rs:List Rn} (hg:∀ r∈rs,Good 1048576 r) (hN:rs.length≤1048576):Runs Yir 129 [.sl rs.length (pc rs)] (.fresh 2 (trimL (pneg (vals rs))).length (pk (trimL (pneg (vals rs))))):=by
 have h:=RunsW.up (prog:=Yir) (c:=Yc129) (ex := .exit 0) (fin:=Ys129 rs rs.length (pc ((List.range rs.length).map fun j=>cn (-rval (rs.getD j z0)))) (rs.length:Nat))
  (fun i=>Ys129 rs i (pc ((List.range i).map fun j=>cn (-rval (rs.getD j z0)))) (i:Nat)) rs.length (by intro e;cases e) ?_ ?_ 0 (Nat.zero_le _)
 ·have hgo:∀ r∈(List.range rs.length).map (fun j=>cn (-rval (rs.getD j z0))),Good 1048576 r:=good_fill fun j _=>good_cn (good_getD hg j).fits.neg
  have ht:=qtrim_run hgo (by rw [List.length_map,List.length_range];exact hN)
  have e:trimL (vals ((List.range rs.length).map (fun j=>cn (-rval (rs.getD j z0)))))=trimL (pneg (vals rs)):=by
   apply trim_ext
   intro i
   rw [vals_range,rval_cn,getD_pneg,← vals_getD]
   split
   ·rfl
   ·rw [getD_end (by rw [vals_length];omega)];rfl
  rw [e,List.length_map,List.length_range] at ht
  have hpk:pk (trimL (pneg (vals rs)))=pc ((trimL (pneg (vals rs))).map cn):=rfl
  rw [hpk,← List.length_map (f:=cn)] at ht ⊢
  exact Yrun129 rs _ _ _ _ h ht
 ·intro i hi
  have ei:i64.wrap ((i:Int)+1)=((i+1:Nat):Int):=by rw [w64 (by omega) (by omega)];omega
  obtain ⟨g1,g2⟩:=good_getD hg i
  have k:=Yk129_1 rs i (pc ((List.range i).map fun j=>cn (-rval (rs.getD j z0)))) (i:Nat) (by simp;omega) (by omega) (by omega) (by rw [Int.toNat_natCast];exact rneg_run g1 g2)
  refine k.to rfl ?_
  rw [ei,← pc_map_snoc (fun j => -rval (rs.getD j z0)) i,Int.toNat_natCast]
 ·exact Yk129_2 rs _ _ _ (by simp)
theorem getD_endR {rs:List Rn} {i:Nat} (h:rs.length≤i):rs.getD i z0=z0:=by rw [List.getD_eq_getElem?_getD,List.getElem?_eq_none h];rfl
theorem qat_run (rs:List Rn) (i:Nat):Runs Yir 128 [.sl rs.length (pc rs), .int .i64 (i:Nat)] (rawAV (rs.getD i z0)):=by
 by_cases h:i<rs.length
 ·have:=Yrun128_1 rs (i:Nat) (by simp;omega) (by omega)
  rw [Int.toNat_natCast] at this
  exact this
 ·rw [getD_endR (by omega)]
  exact Yrun128_2 rs (i:Nat) (by simp;omega)
theorem qplus_run {K:Nat} {rs ss:List Rn} (hr:∀ r∈rs,Good K r) (hs:∀ r∈ss,Good K r) (hK:K<1048576) (hN:rs.length≤1048576) (hM:ss.length≤1048576) :
  Runs Yir 87 [.sl rs.length (pc rs), .sl ss.length (pc ss)] (.fresh 2 (padd (vals rs) (vals ss)).length (pk (padd (vals rs) (vals ss)))):=by
 have h:=RunsW.up (prog:=Yir) (c:=Yc87) (ex := .exit 0) (fin:=Ys87 rs ss (max rs.length ss.length) (pc ((List.range (max rs.length ss.length)).map fun j=>cn (rval (rs.getD j z0)+rval (ss.getD j z0)))) ((max rs.length ss.length:Nat):Int))
  (fun i=>Ys87 rs ss i (pc ((List.range i).map fun j=>cn (rval (rs.getD j z0)+rval (ss.getD j z0)))) (i:Nat)) (max rs.length ss.length) (by intro e;cases e) ?_ ?_ 0 (Nat.zero_le _)
 ·have hgo:∀ r∈(List.range (max rs.length ss.length)).map (fun j=>cn (rval (rs.getD j z0)+rval (ss.getD j z0))),Good 1048576 r:=good_fill fun j _=>(good_cn ((good_getD hr j).fits.add (good_getD hs j).fits)).mono (by omega)
  have ht:=qtrim_run hgo (by rw [List.length_map,List.length_range];omega)
  have e:trimL (vals ((List.range (max rs.length ss.length)).map (fun j=>cn (rval (rs.getD j z0)+rval (ss.getD j z0)))))=padd (vals rs) (vals ss):=by
   unfold padd
   apply trim_ext
   intro i
   rw [vals_range,getD_range,rval_cn,vals_getD,vals_getD,vals_length,vals_length]
  rw [e,List.length_map,List.length_range] at ht
  have hpk:pk (padd (vals rs) (vals ss))=pc ((padd (vals rs) (vals ss)).map cn):=rfl
  rw [hpk,← List.length_map (f:=cn)] at ht ⊢
  exact Yrun87 rs ss _ _ _ _ h ht
 ·intro i hi
  have ei:i64.wrap ((i:Int)+1)=((i+1:Nat):Int):=by rw [w64 (by omega) (by omega)];omega
  obtain ⟨g1,g2⟩:=good_getD hr i
  obtain ⟨g3,g4⟩:=good_getD hs i
  have hp:=rplus_run (na:=(rs.getD i z0).1) (nb:=(ss.getD i z0).1) g1 g3 (by omega) (by omega)
  have a1:=qat_run rs i
  have a2:=qat_run ss i
  have fin:∀ s',Ys87 rs ss (i+1) (pc ((List.range i).map fun j=>cn (rval (rs.getD j z0)+rval (ss.getD j z0)))++([.bool (decide (rval (rs.getD (Int.toNat (i:Int)) z0)+rval (ss.getD (Int.toNat (i:Int)) z0)<0)), .sl (limbs (Int.natAbs (rval (rs.getD (Int.toNat (i:Int)) z0)+rval (ss.getD (Int.toNat (i:Int)) z0)))).length (lm (limbs (Int.natAbs (rval (rs.getD (Int.toNat (i:Int)) z0)+rval (ss.getD (Int.toNat (i:Int)) z0)))))]:List AV)) (i64.wrap ((i:Int)+1))=s'→s'=Ys87 rs ss (i+1) (pc ((List.range (i+1)).map fun j=>cn (rval (rs.getD j z0)+rval (ss.getD j z0)))) ((i+1:Nat):Int):=by
   intro s' hs'
   rw [← hs',ei,← pc_map_snoc (fun j=>rval (rs.getD j z0)+rval (ss.getD j z0)) i,Int.toNat_natCast]
  by_cases h1:i<rs.length
  ·exact (Yk87_1 rs ss i (pc ((List.range i).map fun j=>cn (rval (rs.getD j z0)+rval (ss.getD j z0)))) (i:Nat) (by simp;omega) (by omega) (by rw [Int.toNat_natCast];exact a1) (by rw [Int.toNat_natCast];exact a2) (by rw [Int.toNat_natCast];exact hp)).to rfl (fin _ rfl)
  ·exact (Yk87_2 rs ss i (pc ((List.range i).map fun j=>cn (rval (rs.getD j z0)+rval (ss.getD j z0)))) (i:Nat) (by simp;omega) (by simp;omega) (by omega) (by rw [Int.toNat_natCast];exact a1) (by rw [Int.toNat_natCast];exact a2) (by rw [Int.toNat_natCast];exact hp)).to rfl (fin _ rfl)
 ·exact Yk87_3 rs ss _ _ _ (by simp;omega) (by simp;omega)
theorem qminus_run {K:Nat} {rs ss:List Rn} (hr:∀ r∈rs,Good K r) (hs:∀ r∈ss,Good K r) (hK:K<1048576) (hN:rs.length≤1048576) (hM:ss.length≤1048576) :
  Runs Yir 88 [.sl rs.length (pc rs), .sl ss.length (pc ss)] (.fresh 2 (psub (vals rs) (vals ss)).length (pk (psub (vals rs) (vals ss)))):=by
 have hn:=qneg_run (fun r h=>(hs r h).mono (show K≤1048576 by omega)) hM
 have hf:∀ x∈trimL (pneg (vals ss)),Fits K x:=fits_mem_trim (fits_mem_pneg (fits_vals hs))
 have hl:=trim_len (pneg (vals ss))
 rw [pneg_len,vals_length] at hl
 have hp:=qplus_run (ss:=(trimL (pneg (vals ss))).map cn) hr (good_cns hf) hK hN (by rw [List.length_map];omega)
 rw [vals_cn] at hp
 have e:padd (vals rs) (trimL (pneg (vals ss)))=psub (vals rs) (vals ss):=by
  have h1:trimL (padd (vals rs) (trimL (pneg (vals ss))))=trimL (psub (vals rs) (vals ss)):=by
   apply trim_ext
   intro i
   rw [getD_padd,getD_trim,psub,getD_padd]
  have h2:∀ a b:List Int,trimL (padd a b)=padd a b:=fun a b=>trim_trim _
  rw [h2,psub,h2] at h1
  exact h1
 rw [e] at hp
 have hpk:∀ p:List Int,pk p=pc (p.map cn):=fun _=>rfl
 rw [hpk] at hn hp ⊢
 rw [← List.length_map (f:=cn)] at hn hp ⊢
 exact Yrun88 rs ss _ _ hn hp
theorem qtimes_run {K:Nat} {rs ss:List Rn} (hr:∀ r∈rs,Good K r) (hs:∀ r∈ss,Good K r) (hK:2*K+rs.length<1048576) (hM:rs.length+ss.length≤1048576) :
  Runs Yir 53 [.sl rs.length (pc rs), .sl ss.length (pc ss)] (.fresh 2 (pmul (vals rs) (vals ss)).length (pk (pmul (vals rs) (vals ss)))):=by
 have hev:=fun x=>tOut_eval rs ss ss.length (rs.length+ss.length-1) x rs.length (by omega)
 have htk:∀ ts:List Rn,(vals ts).take ts.length=vals ts:=fun ts=>by rw [List.take_of_length_le (by rw [vals_length];omega)]
 by_cases h1:rs.length=0
 ·have hz:rs=[]:=List.eq_nil_of_length_eq_zero h1
  subst hz
  exact Yrun53_1 [] ss (by simp)
 by_cases h2:ss.length=0
 ·have hz:ss=[]:=List.eq_nil_of_length_eq_zero h2
  subst hz
  have e:pmul (vals rs) (vals ([]:List Rn))=[]:=pmul_zero_right rfl
  rw [e]
  exact Yrun53_2 rs [] (by rw [beq_eq_false_iff_ne];omega) (by simp)
 have hgood:=tOut_good (os:=List.replicate (rs.length+ss.length-1) z0) hr hs (good_zeros _ _) ss.length rs.length
 have hlen:=tOut_length rs ss (List.replicate (rs.length+ss.length-1) z0) ss.length rs.length
 rw [List.length_replicate] at hlen
 have hl:=RunsW.up (prog:=Yir) (c:=Yc53) (ex := .exit 0) (fin:=Ys53 rs ss (rs.length+ss.length-1) (tOut rs ss (List.replicate (rs.length+ss.length-1) z0) ss.length rs.length) (rs.length:Nat))
  (fun i=>Ys53 rs ss (rs.length+ss.length-1) (tOut rs ss (List.replicate (rs.length+ss.length-1) z0) ss.length i) (i:Nat)) rs.length (by intro e;cases e) ?_ ?_ 0 (Nat.zero_le _)
 ·have e3:i64.wrap ((i64.wrap ((rs.length:Int)+(ss.length:Int)))-1)=((rs.length+ss.length-1:Nat):Int):=by
   rw [w64 (n:=(rs.length:Int)+(ss.length:Int)) (by omega) (by omega),w64 (by omega) (by omega)];omega
  have ht:=qtrim_run (fun r h=>(hgood r h).mono (show 2*K+rs.length≤1048576 by omega)) (by omega)
  have hmul:trimL (vals (tOut rs ss (List.replicate (rs.length+ss.length-1) z0) ss.length rs.length))=pmul (vals rs) (vals ss):=by
   rw [← pmul_trim]
   exact peval_inj fun x=>by rw [hev x,htk,htk,peval_pmul]
  rw [hmul,hlen] at ht
  have hpk:pk (pmul (vals rs) (vals ss))=pc ((pmul (vals rs) (vals ss)).map cn):=rfl
  rw [hpk,← List.length_map (f:=cn)] at ht ⊢
  exact Yrun53_3 rs ss _ _ _ _ (by rw [beq_eq_false_iff_ne];omega) (by rw [beq_eq_false_iff_ne];omega) (by rw [e3];omega) (by rw [e3,Int.toNat_natCast,repl_pc];exact hl) ht
 ·intro i hi
  have ei:i64.wrap ((i:Int)+1)=((i+1:Nat):Int):=by rw [w64 (by omega) (by omega)];omega
  have hgo:=tOut_good (os:=List.replicate (rs.length+ss.length-1) z0) hr hs (good_zeros _ _) ss.length i
  have hlo:=tOut_length rs ss (List.replicate (rs.length+ss.length-1) z0) ss.length i
  rw [List.length_replicate] at hlo
  have k:=Yk53_1 rs ss (rs.length+ss.length-1) (tOut rs ss (List.replicate (rs.length+ss.length-1) z0) ss.length i) (i:Nat) (tOut rs ss (List.replicate (rs.length+ss.length-1) z0) ss.length (i+1)) (by simp;omega) ?_
  ·exact k.to rfl (by rw [ei])
  ·rw [tOut]
   generalize tOut rs ss (List.replicate (rs.length+ss.length-1) z0) ss.length i=os at *
   have hin:=RunsW.up (prog:=Yir) (c:=Yc53i) (ex := .exit 2) (fin:=Ys53i rs ss (rs.length+ss.length-1) (tIn rs ss os i ss.length) i ss.length)
    (fun j=>Ys53i rs ss (rs.length+ss.length-1) (tIn rs ss os i j) (i:Nat) (j:Nat)) ss.length (by intro e;cases e) ?_ ?_ 0 (Nat.zero_le _)
   ·exact hin
   ·intro j hj
    have ej:i64.wrap ((j:Int)+1)=((j+1:Nat):Int):=by rw [w64 (by omega) (by omega)];omega
    have eij:i64.wrap ((i:Int)+(j:Int))=((i+j:Nat):Int):=by rw [w64 (by omega) (by omega)];omega
    have hli:=tIn_length rs ss os i j
    have hfar:=tIn_far rs ss os i j (i+j) (Nat.le_refl _)
    obtain ⟨gr1,gr2⟩:=good_getD hr i
    obtain ⟨gs1,gs2⟩:=good_getD hs j
    obtain ⟨go1,go2⟩:=good_getD hgo (i+j)
    have hp:=(Fits.mul (good_getD hr i).fits (good_getD hs j).fits).len
    have k:=Yk53i_1 rs ss (rs.length+ss.length-1) (tIn rs ss os i j) (i:Nat) (j:Nat) (by simp;omega) (by rw [eij];omega) (by omega) (by omega) (by omega)
     (by simp only [Int.toNat_natCast];exact rtimes_run gr1 gs1 (by omega))
     (by
      simp only [Int.toNat_natCast,eij,hfar]
      have:=rplus_run (na:=(os.getD (i+j) z0).1) (nb:=decide (rval (rs.getD i z0)*rval (ss.getD j z0)<0)) go1 (big_u32 (rval (rs.getD i z0)*rval (ss.getD j z0)).natAbs) (by omega) (by omega)
      rw [rv_big] at this
      exact this)
    refine k.to rfl ?_
    simp only [Int.toNat_natCast,eij,ej,tIn]
   ·exact Yk53i_2 rs ss _ _ (i:Nat) (ss.length:Nat) (by simp)
 ·exact Yk53_2 rs ss _ _ (rs.length:Nat) (by simp)
end Go.Proofs.Ythnnfemologhfaa

namespace Go.Proofs.Ythnnfemologhfaa
open Go.IntKind (i64 u64 u32)
open Go.Ai
set_option maxRecDepth 100000
def TMA:Table:=TRB
theorem TMA_holds:THolds Yir TMA:=TRB_holds
end Go.Proofs.Ythnnfemologhfaa

namespace Go.Ai
open Go.IntKind (i64 u64 u32)
def Dv (g t:List Int):Prop:=∃ (c:Int) (k:List Int),c ≠ 0∧∀ x,c*peval t x=peval g x*peval k x
theorem Dv.refl (g:List Int):Dv g g:=⟨1,[1],by decide,fun x=>by simp [peval]⟩
theorem Dv.zero (g:List Int):Dv g []:=⟨1,[],by decide,fun x=>by simp [peval]⟩
theorem Dv.trans {a b c:List Int} (h1:Dv a b) (h2:Dv b c):Dv a c:=by
 obtain ⟨m,k,hm,h⟩:=h1
 obtain ⟨n,l,hn,g⟩:=h2
 refine ⟨m*n,pmul k l,Int.mul_ne_zero hm hn,fun x => ?_⟩
 have h':=h x;have g':=g x
 rw [peval_pmul,Int.mul_assoc,g']
 rw [← Int.mul_assoc,h']
 grind
theorem Dv.comb {g s t r:List Int} {m:Int} (u v:List Int) (hm:m ≠ 0) (h1:Dv g s) (h2:Dv g t) (h:∀ x,m*peval r x=peval u x*peval s x+peval v x*peval t x):Dv g r:=by
 obtain ⟨c,k,hc,hk⟩:=h1
 obtain ⟨d,l,hd,hl⟩:=h2
 refine ⟨c*d*m,padd (psmul d (pmul u k)) (psmul c (pmul v l)),Int.mul_ne_zero (Int.mul_ne_zero hc hd) hm,fun x => ?_⟩
 rw [peval_padd,peval_psmul,peval_psmul,peval_pmul,peval_pmul]
 have a:=hk x;have b:=hl x;have e:=h x
 rw [Int.mul_assoc,e]
 generalize peval s x=s at *
 generalize peval t x=t at *
 generalize peval g x=g at *
 generalize peval k x=k at *
 generalize peval l x=l at *
 generalize peval u x=u at *
 generalize peval v x=v at *
 have e1:c*d*(u*s+v*t)=d*u*(c*s)+c*v*(d*t):=by grind
 rw [e1,a,b];grind
theorem Dv.left {g f t:List Int} {m n:Int} (_:m ≠ 0) (hn:n ≠ 0) (h1:Dv g t) (h:∀ x,m*peval f x=n*peval g x):Dv f t:=by
 obtain ⟨c,k,hc,hk⟩:=h1
 refine ⟨n*c,psmul m k,Int.mul_ne_zero hn hc,fun x => ?_⟩
 have a:=hk x;have b:=h x
 rw [peval_psmul]
 have e1:n*c*peval t x=n*(c*peval t x):=by grind
 rw [e1,a]
 have e2:n*(peval g x*peval k x)=(n*peval g x)*peval k x:=by grind
 rw [e2,← b];grind
theorem pmul_ne {p q:List Int} (hp:trimL p ≠ []) (hq:trimL q ≠ []):(trimL (pmul p q)).length=(trimL p).length+(trimL q).length-1:=by
 have e:trimL (pmul p q)=trimL (pmul (trimL p) (trimL q)):=peval_inj fun x=>by rw [peval_pmul,peval_pmul,peval_trim,peval_trim]
 rw [e]
 have lp:=lead_trim p
 have lq:=lead_trim q
 generalize trimL p=P at *
 generalize trimL q=Q at *
 have h1:=List.length_pos_iff.2 hp
 have h2:=List.length_pos_iff.2 hq
 obtain ⟨t1,t2⟩:=pmul_top P Q hp hq
 have t3:(pmul P Q).getD (P.length+Q.length-2) 0 ≠ 0:=by rw [t1];exact Int.mul_ne_zero (lead_top lp hp) (lead_top lq hq)
 rw [pmul_trim]
 have a1:¬ (pmul P Q).length≤P.length+Q.length-2:=fun h=>t3 (getD_end h)
 have a2:¬ P.length+Q.length-1<(pmul P Q).length:=fun h=>by
  have hne:pmul P Q ≠ []:=by intro h0;rw [h0] at h;simp at h
  exact lead_top (show Lead (pmul P Q) from pmul_trim P Q) hne (t2 _ (by omega))
 omega
theorem Dv.length {g t:List Int} (h:Dv g t) (ht:trimL t ≠ []):(trimL g).length≤(trimL t).length∧trimL g ≠ []:=by
 obtain ⟨c,k,hc,hk⟩:=h
 have e:trimL (psmul c t)=trimL (pmul g k):=peval_inj fun x=>by rw [peval_psmul,peval_pmul];exact hk x
 rw [trim_psmul hc] at e
 have e2:=congrArg List.length e
 rw [psmul_length] at e2
 have ht1:=List.length_pos_iff.2 ht
 by_cases hg:trimL g=[]
 ·have:trimL (pmul g k)=trimL []:=peval_inj fun x=>by rw [peval_pmul,peval_zero_of_trim hg];simp [peval]
  have h0:(trimL []).length=0:=rfl
  rw [this,h0] at e2
  omega
 ·by_cases hk0:trimL k=[]
  ·have:trimL (pmul g k)=trimL []:=peval_inj fun x=>by rw [peval_pmul,peval_zero_of_trim hk0];simp [peval]
   have h0:(trimL []).length=0:=rfl
   rw [this,h0] at e2
   omega
  ·rw [pmul_ne hg hk0] at e2
   have:=List.length_pos_iff.2 hk0
   exact ⟨by omega,hg⟩
def IsG (g s t:List Int):Prop:=Dv g s∧Dv g t∧∃ (c:Int) (u v:List Int),c ≠ 0∧∀ x,c*peval g x=peval u x*peval s x+peval v x*peval t x
theorem IsG.dv {g s t f:List Int} (h:IsG g s t) (h1:Dv f s) (h2:Dv f t):Dv f g:=by
 obtain ⟨_,_,c,u,v,hc,h⟩:=h
 exact Dv.comb u v hc h1 h2 h
theorem IsG.length {f g s t:List Int} (h1:IsG f s t) (h2:IsG g s t) (hf:trimL f ≠ []):(trimL f).length=(trimL g).length:=by
 have a:=(h1.dv h2.1 h2.2.1).length hf
 have b:=(h2.dv h1.1 h1.2.1).length a.2
 omega
theorem IsG.step {g r d e q:List Int} {a m:Int} (ha:a ≠ 0) (hm:m ≠ 0) (hr:∀ x,a*peval r x=peval q x*peval d x+m*peval e x) (h:IsG g d e):IsG g r d:=by
 obtain ⟨h1,h2,c,u,v,hc,h⟩:=h
 refine ⟨Dv.comb q [m] ha h1 h2 (fun x=>by rw [hr x];simp [peval]),h1,c*m,psmul a v,psub (psmul m u) (pmul v q),Int.mul_ne_zero hc hm,fun x => ?_⟩
 have e1:=hr x;have e2:=h x
 rw [peval_psmul,peval_psub,peval_psmul,peval_pmul]
 generalize peval g x=g at *
 generalize peval d x=d at *
 generalize peval e x=e at *
 generalize peval r x=r at *
 generalize peval q x=q at *
 generalize peval u x=u at *
 generalize peval v x=v at *
 have e3:c*m*g=m*(c*g):=by grind
 rw [e3,e2]
 have e4:a*v*r=v*(a*r):=by grind
 rw [e4,e1];grind
theorem IsG.mul {d p q:List Int} (c:List Int) {d' p' q':List Int} (hd:∀ x,peval d' x=peval c x*peval d x) (hp:∀ x,peval p' x=peval c x*peval p x) (hq:∀ x,peval q' x=peval c x*peval q x) (h:IsG d p q):IsG d' p' q':=by
 obtain ⟨⟨m,k,hm,hk⟩,⟨n,l,hn,hl⟩,e,u,v,he,h⟩:=h
 refine ⟨⟨m,k,hm,fun x => ?_⟩,⟨n,l,hn,fun x => ?_⟩,e,u,v,he,fun x => ?_⟩
 ·have:=hk x;rw [hd,hp];grind
 ·have:=hl x;rw [hd,hq];grind
 ·have:=h x;rw [hd,hp,hq];grind
end Go.Ai

namespace Go.Proofs.Ythnnfemologhfaa
open Go.IntKind (i64 u64 u32)
open Go.Ai
set_option maxRecDepth 100000
theorem mcn_good {K:Nat} {p:List Int} (h:Kb K p):∀ r∈p.map cn,Good K r:=good_cns h.mem
section
variable {p d:List Int} {J Kd:Nat}
end
def TMB:Table:=TMA
theorem TMB_holds:THolds Yir TMB:=TMA_holds
end Go.Proofs.Ythnnfemologhfaa

namespace Go.Ai
open Go.IntKind (i64 u64 u32)
theorem pder_len (p:List Int):(pder p).length≤p.length-1:=by
 unfold pder
 have:=trim_len ((List.range (p.length-1)).map fun j=>p.getD (j+1) 0*((j+1:Nat):Int))
 simpa using this
theorem kb_pder {K:Nat} {p:List Int} (h:Kb K p) (hl:p.length≤1048576):Kb (K+2) (pder p):=fun i=>by
 rw [getD_pder]
 by_cases hi:i<1048576
 ·refine ((h (i+1)).mul (k:=1) ?_).mono (by omega)
  unfold Fits;rw [Int.natAbs_natCast];omega
 ·rw [getD_end (xs:=p) (by omega),Int.zero_mul];exact fits_zero _
end Go.Ai

namespace Go.Proofs.Ythnnfemologhfaa
open Go.IntKind (i64 u64 u32)
open Go.Ai
set_option maxRecDepth 100000
section
variable {p q:List Int} {J Kq:Nat}
end
def TMC:Table:=TMB
theorem TMC_holds:THolds Yir TMC:=TMB_holds
end Go.Proofs.Ythnnfemologhfaa

namespace Go.Proofs.Ythnnfemologhfaa
open Go.IntKind (i64 u64 u32)
open Go.Ai
set_option maxRecDepth 100000
theorem fr_cn {f:Nat} {args:List AV} {X:List Int} (h:Runs Yir f args (.fresh 2 X.length (pk X))):Runs Yir f args (.fresh 2 (X.map cn).length (pc (X.map cn))):=by
 rw [List.length_map];exact h
section
variable {p d:List Int} {J Kd:Nat}
end
end Go.Proofs.Ythnnfemologhfaa
