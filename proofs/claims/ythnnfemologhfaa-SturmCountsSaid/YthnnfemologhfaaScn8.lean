/- Texts of the proof of SturmCounts, packed by pack.py: part 8 of 19. -/
import Derived.Test.YthnnfemologhfaaScn7
namespace Go.Proofs.Ythnnfemologhfaa
open Go.IntKind (i64 u64 u32)
open Go.Ai
set_option maxRecDepth 100000
def Dl (la:Nat) (xa:List AV) (lb:Nat) (bs:List AV) (n:Nat) (cs:List AV) (i:Int):Zk:=(.val (.sl la xa)::(.val (.sl lb bs)::(dds 2 (.own 1 0 []::(.own 1 n cs::(.val (.int .i64 i)::(dds 59 [])))))))
def Dn (la:Nat) (xa:List AV) (lb:Nat) (bs:List AV) (n:Nat) (cs:List AV) (i c k:Int):Zk:=(.val (.sl la xa)::(.val (.sl lb bs)::(dds 2 (.own 1 0 []::(.own 1 n cs::(.val (.int .i64 i)::(.val (.int .u64 c)::(.val (.int .i64 k)::(dds 57 [])))))))))
theorem Zms (la:Nat) (xa:List AV) (lb:Nat) (bs:List AV) (n:Nat) (cs ds:List AV) (i c k x y z:Int) (c1:(decide (k<(lb:Int)))=true) (n1:0≤(i64.wrap (i+k))∧(i64.wrap (i+k))<(n:Int)) (n2:Z3 cs (Int.toNat (i64.wrap (i+k))*1) 1 true=some (.int .u32 z)) (n3:0≤i∧i<(la:Int)) (n4:Z3 (List.drop (Int.toNat i*1) xa) 0 1 true=some (.int .u32 x)) (n5:0≤k∧k<(lb:Int)) (n6:Z3 (List.drop (Int.toNat k*1) bs) 0 1 true=some (.int .u32 y)) (n7:0≤(i64.wrap (i+k))∧(i64.wrap (i+k))<(n:Int)) (n8:Xq cs (Int.toNat (i64.wrap (i+k))*1) [.int .u32 (u32.wrap (u64.wrap (c+(u64.wrap ((u64.wrap z)+(u64.wrap ((u64.wrap x)*(u64.wrap y))))))))]=some ds):Za Yir Pg (Dn la xa lb bs n cs i c k) .norm (Dn la xa lb bs n ds i (Int.fdiv (u64.wrap (c+(u64.wrap ((u64.wrap z)+(u64.wrap ((u64.wrap x)*(u64.wrap y))))))) (2^(min (Int.toNat 32) (IntKind.bits .u64)))) (i64.wrap (k+1))):=Za.script (ps:=[(decide (k<(lb:Int)))=true,0≤(i64.wrap (i+k))∧(i64.wrap (i+k))<(n:Int),Z3 cs (Int.toNat (i64.wrap (i+k))*1) 1 true=some (.int .u32 z),0≤i∧i<(la:Int),Z3 (List.drop (Int.toNat i*1) xa) 0 1 true=some (.int .u32 x),0≤k∧k<(lb:Int),Z3 (List.drop (Int.toNat k*1) bs) 0 1 true=some (.int .u32 y),0≤(i64.wrap (i+k))∧(i64.wrap (i+k))<(n:Int),Xq cs (Int.toNat (i64.wrap (i+k))*1) [.int .u32 (u32.wrap (u64.wrap (c+(u64.wrap ((u64.wrap z)+(u64.wrap ((u64.wrap x)*(u64.wrap y))))))))]=some ds,¬ (32:Int)<0]) Xf 300 [.b true, .v (.int .u32 z), .v (.int .u32 x), .v (.int .u32 y), .l ds] [0,1,4,5,6,7,8] (by kernel_rfl) ⟨c1,n1,n2,n3,n4,n5,n6,n7,n8,(by decide),trivial⟩
theorem Zmr (la:Nat) (xa:List AV) (lb:Nat) (bs:List AV) (n:Nat) (cs:List AV) (i c k:Int) (c1:(decide (k<(lb:Int)))=false):Za Yir Pg (Dn la xa lb bs n cs i c k) (.exit 2) (Dn la xa lb bs n cs i c k):=Za.script (ps:=[(decide (k<(lb:Int)))=false]) Xf 300 [.b false] [0,1,4,5,6,7,8] (by kernel_rfl) ⟨c1,trivial⟩
theorem Zho (la:Nat) (xa:List AV) (lb:Nat) (bs:List AV) (n:Nat) (cs:List AV) (i:Int) (h:(decide (i<(la:Int)))=false):Za Yir Pe (Dl la xa lb bs n cs i) (.exit 0) (Dl la xa lb bs n cs i):=Za.script (ps:=[(decide (i<(la:Int)))=false]) Xf 300 [.b false] [0,1,4,5,6] (by kernel_rfl) ⟨h,trivial⟩
theorem Zcw (la:Nat) (xa:List AV) (lb:Nat) (bs:List AV) (n:Nat) (cs ds es:List AV) (i c k:Int) (h:(decide (i<(la:Int)))=true) (hl:Za Yir (.loop Pg) (Dn la xa lb bs n cs i 0 0) (.exit 2) (Dn la xa lb bs n ds i c k)) (hix:0≤i64.wrap (i+(lb:Int))∧i64.wrap (i+(lb:Int))<(n:Int)) (hst:Xq ds (Int.toNat (i64.wrap (i+(lb:Int)))*1) [.int .u32 (u32.wrap c)]=some es):Za Yir Pe (Dl la xa lb bs n cs i) .norm (Dl la xa lb bs n es (i64.wrap (i+1))):=(Za.seq (Za.script (t:=(.val (.sl la xa)::(.val (.sl lb bs)::(dds 2 (.own 1 0 []::(.own 1 n cs::(vi i::(dds 8 (vi i::(.val (.sl la xa)::(vi (la:Int)::(.val (.bool (decide (i<(la:Int))))::(dds 47 []))))))))))))) (ps:=[(decide (i<(la:Int)))=true]) Xf 300 [.b true] [0,1,4,5,6,15,16,17,18] (by kernel_rfl) ⟨h,trivial⟩) (Za.seq (Za.block_norm (Za.seq (Za.script (t:=(.val (.sl la xa)::(.val (.sl lb bs)::(dds 2 (.own 1 0 []::(.own 1 n cs::(vi i::(.val (.int .u64 0)::(dds 7 (vi i::(.val (.sl la xa)::(vi (la:Int)::(.val (.bool (decide (i<(la:Int))))::(dds 47 [])))))))))))))) (ps:=[]) Xf 300 [] [0,1,4,5,6,7,15,16,17,18] (by kernel_rfl) trivial) (Za.seq (Za.seq (Za.script (t:=(.val (.sl la xa)::(.val (.sl lb bs)::(dds 2 (.own 1 0 []::(.own 1 n cs::(vi i::(.val (.int .u64 0)::(vi 0::(dds 57 [])))))))))) (ps:=[]) Xf 300 [] [0,1,4,5,6,7,8] (by kernel_rfl) trivial) (Za.block hl)) (Za.script (t:=(.val (.sl la xa)::(.val (.sl lb bs)::(dds 2 (.own 1 0 []::(.own 1 n es::(vi i::(.val (.int .u64 c)::(vi k::(dds 48 (.dup 5::(vi i::(.val (.sl lb bs)::(vi (lb:Int)::(vi (i64.wrap (i+(lb:Int)))::(.val (.int .u64 c)::(.val (.int .u32 (u32.wrap c))::(.ptr 5 (Int.toNat (i64.wrap (i+(lb:Int)))*1)::(dds 1 []))))))))))))))))))) (ps:=[0≤(i64.wrap (i+(lb:Int)))∧(i64.wrap (i+(lb:Int)))<(n:Int),Xq ds (Int.toNat (i64.wrap (i+(lb:Int)))*1) [.int .u32 (u32.wrap c)]=some es]) Xf 300 [.l es] [0,1,4,5,6,7,8,57,58,59,60,61,62,63,64] (by kernel_rfl) ⟨hix,hst,trivial⟩)))) (Za.script (t:=(.val (.sl la xa)::(.val (.sl lb bs)::(dds 2 (.own 1 0 []::(.own 1 n es::(vi (i64.wrap (i+1))::(dds 59 [])))))))) (ps:=[]) Xf 300 [] [0,1,4,5,6] (by kernel_rfl) trivial)))
def Ho (a:Int) (bs:List Int) (i:Nat):Nat→Nat→List Int→Int→List Int × Int
 | 0,_,out,c=>(out,c)
 | r+1,k,out,c=>Ho a bs i r (k+1) (out.set (i+k) ((c+(out.getD (i+k) 0+a*bs.getD k 0)) % 4294967296)) ((c+(out.getD (i+k) 0+a*bs.getD k 0)) / 4294967296)
theorem Pw {a b c o:Int} (ha:0≤a∧a<4294967296) (hb:0≤b∧b<4294967296) (hc:0≤c∧c<4294967296) (ho:0≤o∧o<4294967296) :
  0≤a*b∧a*b≤18446744065119617025∧0≤c+(o+a*b)∧c+(o+a*b)<18446744073709551616:=by
 have h1:=Int.mul_nonneg ha.1 hb.1
 have h2:a*b≤4294967295*4294967295:=Int.mul_le_mul (by omega) (by omega) hb.1 (by omega)
 omega
theorem Gb {xs:List Int} {i j:Nat} {v:Int} (h:i ≠ j):(xs.set i v).getD j 0=xs.getD j 0:=by
 simp only[List.getD_eq_getElem?_getD,List.getElem?_set_ne h]
theorem Zao {a:Int} {bs:List Int} {i:Nat} (ha:0≤a∧a<4294967296) (hb:U32 bs):∀ (r k:Nat) (out:List Int) (c:Int),r+k=bs.length→i+bs.length≤out.length→U32 out→0≤c∧c<4294967296 →
  (Ho a bs i r k out c).1.length=out.length∧U32 (Ho a bs i r k out c).1∧(0≤(Ho a bs i r k out c).2∧(Ho a bs i r k out c).2<4294967296) ∧
  Zj (Ho a bs i r k out c).1+4294967296^(i+bs.length)*(Ho a bs i r k out c).2=Zj out+4294967296^(i+k)*(c+a*Zj (bs.drop k)) ∧
  ∀ j,i+bs.length≤j→(Ho a bs i r k out c).1.getD j 0=out.getD j 0:=by
 intro r
 induction r with
 | zero =>
  intro k out c hk _ hu hc
  have hk':k=bs.length:=by omega
  subst hk'
  refine⟨rfl,hu,hc,?_,fun _ _=>rfl⟩
  simp[Ho,Zj]
 | succ r ih =>
  intro k out c hk hl hu hc
  have hbk:=Zu hb k
  have hok:=Zu hu (i+k)
  obtain⟨w1,w2,w3,w4⟩:=Pw ha hbk hc hok
  have hlt:i+k<out.length:=by omega
  simp only[Ho]
  generalize hW:c+(out.getD (i+k) 0+a*bs.getD k 0)=W at *
  have hm:0≤W % 4294967296∧W % 4294967296<4294967296:=by omega
  obtain⟨g1,g2,g3,g4,g5⟩:=ih (k+1) (out.set (i+k) (W % 4294967296)) (W / 4294967296) (by omega) (by simpa using hl) (Q0 hu hm) (by omega)
  refine⟨by simpa using g1,g2,g3,?_,fun j hj => ?_⟩
  ·rw[g4,Jy out (i+k) _ hlt]
   have hd:Zj (bs.drop k)=bs.getD k 0+4294967296*Zj (bs.drop (k+1)):=by
    rw[List.drop_eq_getElem_cons (show k<bs.length by omega)]
    simp[Zj,List.getD_eq_getElem?_getD,List.getElem?_eq_getElem (show k<bs.length by omega)]
   rw[hd]
   have hp:(4294967296:Int)^(i+(k+1))=4294967296^(i+k)*4294967296:=by rw[← Nat.add_assoc,Int.pow_succ]
   rw[hp]
   generalize (4294967296:Int)^(i+k)=p at *
   generalize Zj (bs.drop (k+1))=V at *
   have e1:W=4294967296*(W / 4294967296)+W % 4294967296:=by omega
   have e2:c=W-out.getD (i+k) 0-a*bs.getD k 0:=by omega
   rw[e2]
   generalize W / 4294967296=q at *
   generalize W % 4294967296=m at *
   generalize out.getD (i+k) 0=o at *
   generalize bs.getD k 0=b at *
   subst e1
   grind
  ·rw[g5 j hj,Gb (by omega)]
theorem Zg9 (xa bs:List Int) (ha:U32 xa) (hb:U32 bs) (n i:Nat) (hn:n≤1048576) (hi:i<xa.length) (hib:i+bs.length≤n):∀ (r k:Nat) (out:List Int) (c:Int),r+k=bs.length→out.length=n→U32 out→0≤c∧c<4294967296 →
  Za Yir (.loop Pg) (Dn xa.length (lm xa) bs.length (lm bs) n (lm out) (i:Int) c (k:Int)) (.exit 2)
   (Dn xa.length (lm xa) bs.length (lm bs) n (lm (Ho (xa.getD i 0) bs i r k out c).1) (i:Int) (Ho (xa.getD i 0) bs i r k out c).2 (bs.length:Int)):=by
 intro r
 induction r with
 | zero =>
  intro k out c hk _ _ _
  have hk':k=bs.length:=by omega
  subst hk'
  exact Za.loop_out (Zmr xa.length (lm xa) bs.length (lm bs) n (lm out) (i:Int) c (bs.length:Int) (by simp)) (by intro e;cases e)
 | succ r ih =>
  intro k out c hk hl hu hc
  have hai:=Zu ha i
  have hbk:=Zu hb k
  have hok:=Zu hu (i+k)
  obtain⟨w1,w2,w3,w4⟩:=Pw hai hbk hc hok
  have ei:i64.wrap ((i:Int)+(k:Int))=((i+k:Nat):Int):=by rw[w64 (by omega) (by omega)];omega
  have ek:i64.wrap ((k:Int)+1)=((k+1:Nat):Int):=by rw[w64 (by omega) (by omega)];omega
  have hz:=Rs (xs:=out) (i:=i+k) (by omega)
  have hx:=J5 (xs:=xa) (i:=i) hi
  have hy:=J5 (xs:=bs) (i:=k) (by omega)
  have hst:=Wz (xs:=out) (i:=i+k) (v:=(c+(out.getD (i+k) 0+xa.getD i 0*bs.getD k 0)) % 4294967296) (by omega)
  have eW:u64.wrap (c+u64.wrap (u64.wrap (out.getD (i+k) 0)+u64.wrap (u64.wrap (xa.getD i 0)*u64.wrap (bs.getD k 0))))=c+(out.getD (i+k) 0+xa.getD i 0*bs.getD k 0):=by
   have q1:u64.wrap (xa.getD i 0)=xa.getD i 0:=by rw[Qw];omega
   have q2:u64.wrap (bs.getD k 0)=bs.getD k 0:=by rw[Qw];omega
   have q3:u64.wrap (out.getD (i+k) 0)=out.getD (i+k) 0:=by rw[Qw];omega
   rw[q1,q2,q3,Qw,Qw,Qw]
   omega
  have eS:Int.fdiv (c+(out.getD (i+k) 0+xa.getD i 0*bs.getD k 0)) (2^(min (Int.toNat 32) (IntKind.bits .u64)))=(c+(out.getD (i+k) 0+xa.getD i 0*bs.getD k 0)) / 4294967296:=by
   show Int.fdiv _ 4294967296=_
   rw[Int.fdiv_eq_ediv_of_nonneg _ (by omega)]
  have h1:=Zms xa.length (lm xa) bs.length (lm bs) n (lm out) (lm (out.set (i+k) ((c+(out.getD (i+k) 0+xa.getD i 0*bs.getD k 0)) % 4294967296))) (i:Int) c (k:Int) (xa.getD i 0) (bs.getD k 0) (out.getD (i+k) 0)
   (by simp;omega) (by rw[ei];omega) (by rw[ei,Int.toNat_natCast];exact hz) (by omega) (by rw[Int.toNat_natCast];exact hx) (by omega) (by rw[Int.toNat_natCast];exact hy) (by rw[ei];omega) (by rw[ei,Int.toNat_natCast,eW,Wt];exact hst)
  rw[eW,eS,ek] at h1
  exact Za.loop h1 (ih (k+1) _ _ (by omega) (by simpa using hl) (Q0 hu (by omega)) (by omega))
theorem Zg8 (xa bs:List Int) (ha:U32 xa) (hb:U32 bs) (hN:xa.length+bs.length≤1048576):∀ (r i:Nat) (out:List Int),r+i=xa.length→out.length=xa.length+bs.length→U32 out→(∀ j,i+bs.length≤j→out.getD j 0=0) →
  ∃ out',out'.length=xa.length+bs.length∧U32 out'∧Zj out'=Zj out+4294967296^i*(Zj (xa.drop i)*Zj bs) ∧
   Za Yir (.loop Pe) (Dl xa.length (lm xa) bs.length (lm bs) (xa.length+bs.length) (lm out) (i:Int)) (.exit 0) (Dl xa.length (lm xa) bs.length (lm bs) (xa.length+bs.length) (lm out') (xa.length:Int)):=by
 intro r
 induction r with
 | zero =>
  intro i out hi hl hu _
  have hi':i=xa.length:=by omega
  subst hi'
  refine⟨out,hl,hu,by simp[Zj],?_⟩
  exact Za.loop_out (Zho xa.length (lm xa) bs.length (lm bs) (xa.length+bs.length) (lm out) (xa.length:Int) (by simp)) (by intro e;cases e)
 | succ r ih =>
  intro i out hi hl hu hz
  have hai:=Zu ha i
  have hlt:i<xa.length:=by omega
  have hin:=Zg9 xa bs ha hb (xa.length+bs.length) i hN hlt (by omega) bs.length 0 out 0 (by omega) hl hu (by omega)
  obtain⟨g1,g2,g3,g4,g5⟩:=Zao (i:=i) hai hb bs.length 0 out 0 (by omega) (by omega) hu (by omega)
  generalize Ho (xa.getD i 0) bs i bs.length 0 out 0=q at *
  obtain⟨ds,c⟩:=q
  dsimp only at g1 g2 g3 g4 g5 hin
  have ei:i64.wrap ((i:Int)+(bs.length:Int))=((i+bs.length:Nat):Int):=by rw[w64 (by omega) (by omega)];omega
  have ei1:i64.wrap ((i:Int)+1)=((i+1:Nat):Int):=by rw[w64 (by omega) (by omega)];omega
  have ec:u32.wrap c=c:=by rw[Wt];omega
  have hst:=Wz (xs:=ds) (i:=i+bs.length) (v:=c) (by omega)
  have h1:=Zcw xa.length (lm xa) bs.length (lm bs) (xa.length+bs.length) (lm out) (lm ds) (lm (ds.set (i+bs.length) c)) (i:Int) c (bs.length:Int) (by simp;omega) hin (by rw[ei];omega) (by rw[ei,Int.toNat_natCast,ec];exact hst)
  rw[ei1] at h1
  obtain⟨out',k1,k2,k3,k4⟩:=ih (i+1) (ds.set (i+bs.length) c) (by omega) (by simp;omega) (Q0 g2 g3) (fun j hj=>by rw[Gb (by omega),g5 j (by omega),hz j (by omega)])
  refine⟨out',k1,k2,?_,Za.loop h1 k4⟩
  have hv:Zj (ds.set (i+bs.length) c)=Zj out+4294967296^i*(xa.getD i 0*Zj bs):=by
   rw[Jy ds _ _ (by omega),g5 _ (Nat.le_refl _),hz _ (Nat.le_refl _)]
   simp only[Nat.add_zero,List.drop_zero,Int.zero_add,Int.sub_zero] at g4 ⊢
   exact g4
  have hd:Zj (xa.drop i)=xa.getD i 0+4294967296*Zj (xa.drop (i+1)):=by
   rw[List.drop_eq_getElem_cons hlt]
   simp[Zj,List.getD_eq_getElem?_getD,List.getElem?_eq_getElem hlt]
  rw[k3,hv,hd,Int.pow_succ]
  generalize (4294967296:Int)^i=p at *
  generalize Zj (xa.drop (i+1))=V at *
  grind
theorem Zbt {xa bs:List Int} (ha:U32 xa) (hb:U32 bs) (hN:xa.length+bs.length≤1048576) :
  ∃ out,out.length=xa.length+bs.length∧U32 out∧Zj out=Zj xa*Zj bs∧Ze Yir 141 [.sl xa.length (lm xa), .sl bs.length (lm bs)] (.fresh 1 out.length (lm out)):=by
 have en:i64.wrap ((xa.length:Int)+(bs.length:Int))=((xa.length+bs.length:Nat):Int):=by rw[w64 (by omega) (by omega)];omega
 have eN:(Int.toNat (i64.wrap ((xa.length:Int)+(bs.length:Int))))=xa.length+bs.length:=by rw[en,Int.toNat_natCast]
 obtain⟨out,h1,h2,h3,h4⟩:=Zg8 xa bs ha hb hN xa.length 0 (List.replicate (xa.length+bs.length) 0) (by omega) (by simp) (fun x hx=>by rw[List.eq_of_mem_replicate hx];omega) (fun j _=>by simp[List.getD_eq_getElem?_getD,List.getElem?_replicate];split <;> rfl)
 refine⟨out,h1,h2,?_,?_⟩
 ·rw[h3,Xc];simp
 have hmk:0≤i64.wrap ((xa.length:Int)+(bs.length:Int))∧i64.wrap ((xa.length:Int)+(bs.length:Int))≤1048576:=by rw[en];omega
 have hl:Za Yir (.loop Pe) (Dl xa.length (lm xa) bs.length (lm bs) (Int.toNat (i64.wrap ((xa.length:Int)+(bs.length:Int)))) (Q7 [.int .u32 0] (Int.toNat (i64.wrap ((xa.length:Int)+(bs.length:Int))))) 0) (.exit 0) (Dl xa.length (lm xa) bs.length (lm bs) (Int.toNat (i64.wrap ((xa.length:Int)+(bs.length:Int)))) (lm out) (xa.length:Int)):=by
  rw[eN,Xx];exact h4
 have:=Ze.of_bodyW (prog:=Yir) (f:=141) (args:=[.sl xa.length (lm xa), .sl bs.length (lm bs)]) (r := .fresh 1 (Int.toNat (i64.wrap ((xa.length:Int)+(bs.length:Int)))) (lm out)) (fn:=Zh2) (s:=(.val (.sl xa.length (lm xa))::(.val (.sl bs.length (lm bs))::(dds 2 (.own 1 (Int.toNat (i64.wrap ((xa.length:Int)+(bs.length:Int)))) (lm out)::(dds 1 (.val (.int .i64 (xa.length:Int))::(dds 59 [])))))))) (ex := .ret) rfl rfl
  (Za.seq (Za.script (t:=(.val (.sl xa.length (lm xa))::(.val (.sl bs.length (lm bs))::(dds 2 (.own 1 0 []::(dds 61 [])))))) (ex := .norm) (ps:=[]) Xf 300 [] [0,1,4] (by kernel_rfl) trivial)
  (Za.seq (Za.script (t:=(.val (.sl xa.length (lm xa))::(.val (.sl bs.length (lm bs))::(dds 2 (.own 1 0 []::(.own 1 (Int.toNat (i64.wrap ((xa.length:Int)+(bs.length:Int)))) (Q7 [.int .u32 0] (Int.toNat (i64.wrap ((xa.length:Int)+(bs.length:Int)))))::(dds 3 (.val (.sl xa.length (lm xa))::(.val (.int .i64 (xa.length:Int))::(.val (.sl bs.length (lm bs))::(.val (.int .i64 (bs.length:Int))::(.val (.int .i64 (i64.wrap ((xa.length:Int)+(bs.length:Int))))::(dds 52 []))))))))))))) (ex := .norm) (ps:=[0≤(i64.wrap ((xa.length:Int)+(bs.length:Int)))∧(i64.wrap ((xa.length:Int)+(bs.length:Int)))≤1048576]) Xf 300 [] [0,1,4,5,9,10,11,12,13] (by kernel_rfl) ⟨hmk,trivial⟩)
  (Za.seq (Za.seq (Za.script (t:=(.val (.sl xa.length (lm xa))::(.val (.sl bs.length (lm bs))::(dds 2 (.own 1 0 []::(.own 1 (Int.toNat (i64.wrap ((xa.length:Int)+(bs.length:Int)))) (Q7 [.int .u32 0] (Int.toNat (i64.wrap ((xa.length:Int)+(bs.length:Int)))))::(.val (.int .i64 0)::(dds 59 [])))))))) (ex := .norm) (ps:=[]) Xf 300 [] [0,1,4,5,6] (by kernel_rfl) trivial)
  (Za.block hl))
  (Za.script (t:=(.val (.sl xa.length (lm xa))::(.val (.sl bs.length (lm bs))::(dds 2 (.own 1 (Int.toNat (i64.wrap ((xa.length:Int)+(bs.length:Int)))) (lm out)::(dds 1 (.val (.int .i64 (xa.length:Int))::(dds 59 [])))))))) (ex := .ret) (ps:=[]) Xf 300 [] [0,1,4,6] (by kernel_rfl) trivial)))) (by intro i e;cases e) rfl
 rw[eN,← h1] at this
 exact this
def TBC:Jx:=TBB
theorem Qf:Q1 Yir TBC:=Xf
end Go.Proofs.Ythnnfemologhfaa

namespace Go.Ai
open Go.IntKind (i64 u64 u32)
theorem Qy:∀ (xs:List Int) (i:Nat),Zj (xs.drop i)=xs.getD i 0+4294967296*Zj (xs.drop (i+1))
 | [],i=>by simp[Zj]
 | x::xs,0=>by simp[Zj]
 | x::xs,i+1=>by
  have:=Qy xs i
  simpa using this
theorem Qo {xs:List Int} {i j:Nat} {v:Int} (h:i ≠ j):(xs.set i v).getD j 0=xs.getD j 0:=by
 simp only[List.getD_eq_getElem?_getD,List.getElem?_set_ne h]
theorem Qt {xs:List Int} {i:Nat} (h:xs.length≤i):xs.getD i 0=0:=by
 simp[List.getD_eq_getElem?_getD,List.getElem?_eq_none h]
theorem J0 {xs:List Int} {i:Nat} (h:xs.length≤i):Zj (xs.drop i)=0:=by
 rw[List.drop_eq_nil_of_le h];rfl
def G9 (xs ys:List Int):Nat→Nat→List Int→Int→List Int × Int
 | 0,_,o,c=>(o,c)
 | r+1,i,o,c=>G9 xs ys r (i+1) (o.set i ((xs.getD i 0+c+ys.getD i 0) % 4294967296)) ((xs.getD i 0+c+ys.getD i 0) / 4294967296)
theorem Zk8 {xs ys:List Int} (hx:U32 xs) (hy:U32 ys) (hl:ys.length≤xs.length):∀ (r i:Nat) (o:List Int) (c:Int),r+i=xs.length→xs.length<o.length→U32 o→0≤c∧c≤1→(∀ j,i≤j→o.getD j 0=0) →
  (G9 xs ys r i o c).1.length=o.length∧U32 (G9 xs ys r i o c).1∧(0≤(G9 xs ys r i o c).2∧(G9 xs ys r i o c).2≤1) ∧
  Zj (G9 xs ys r i o c).1+4294967296^xs.length*(G9 xs ys r i o c).2=Zj o+4294967296^i*(c+Zj (xs.drop i)+Zj (ys.drop i)) ∧
  ∀ j,xs.length≤j→(G9 xs ys r i o c).1.getD j 0=0:=by
 intro r
 induction r with
 | zero =>
  intro i o c hi _ hu hc hz
  have hi':i=xs.length:=by omega
  subst hi'
  refine⟨rfl,hu,hc,?_,fun j hj=>hz j hj⟩
  rw[J0 (Nat.le_refl _),J0 hl]
  simp[G9]
 | succ r ih =>
  intro i o c hi hlo hu hc hz
  have h1:=Zu hx i
  have h2:=Zu hy i
  simp only[G9]
  have ex:=Qy xs i
  have ey:=Qy ys i
  have hoz:=hz i (Nat.le_refl _)
  generalize hW:xs.getD i 0+c+ys.getD i 0=W at *
  have hm:0≤W % 4294967296∧W % 4294967296<4294967296:=by omega
  obtain⟨g1,g2,g3,g4,g5⟩:=ih (i+1) (o.set i (W % 4294967296)) (W / 4294967296) (by omega) (by simpa using hlo) (Q0 hu hm) (by omega) (fun j hj=>by rw[Qo (by omega)];exact hz j (by omega))
  refine⟨by simpa using g1,g2,g3,?_,g5⟩
  rw[g4,Jy o i _ (by omega),ex,ey,hoz,Int.pow_succ]
  generalize (4294967296:Int)^i=p at *
  generalize Zj (xs.drop (i+1))=V at *
  generalize Zj (ys.drop (i+1))=U at *
  have e1:W=4294967296*(W / 4294967296)+W % 4294967296:=by omega
  have e2:c=W-xs.getD i 0-ys.getD i 0:=by omega
  rw[e2]
  generalize W / 4294967296=q at *
  generalize W % 4294967296=m at *
  generalize xs.getD i 0=a at *
  generalize ys.getD i 0=b at *
  subst e1
  grind
def Fg (xs ys:List Int):Nat→Nat→List Int→Int→List Int × Int
 | 0,_,o,c=>(o,c)
 | r+1,i,o,c=>Fg xs ys r (i+1) (o.set i ((xs.getD i 0-c-ys.getD i 0) % 4294967296)) (-((xs.getD i 0-c-ys.getD i 0) / 4294967296))
theorem Zjr {xs ys:List Int} (hx:U32 xs) (hy:U32 ys) (hl:ys.length≤xs.length):∀ (r i:Nat) (o:List Int) (c:Int),r+i=xs.length→xs.length≤o.length→U32 o→0≤c∧c≤1→(∀ j,i≤j→o.getD j 0=0) →
  (Fg xs ys r i o c).1.length=o.length∧U32 (Fg xs ys r i o c).1∧(0≤(Fg xs ys r i o c).2∧(Fg xs ys r i o c).2≤1) ∧
  Zj (Fg xs ys r i o c).1=Zj o+4294967296^i*(Zj (xs.drop i)-Zj (ys.drop i)-c)+4294967296^xs.length*(Fg xs ys r i o c).2:=by
 intro r
 induction r with
 | zero =>
  intro i o c hi _ hu hc hz
  have hi':i=xs.length:=by omega
  subst hi'
  refine⟨rfl,hu,hc,?_⟩
  rw[J0 (Nat.le_refl _),J0 hl]
  simp only[Fg]
  generalize (4294967296:Int)^xs.length=p
  grind
 | succ r ih =>
  intro i o c hi hlo hu hc hz
  have h1:=Zu hx i
  have h2:=Zu hy i
  simp only[Fg]
  have ex:=Qy xs i
  have ey:=Qy ys i
  have hoz:=hz i (Nat.le_refl _)
  generalize hW:xs.getD i 0-c-ys.getD i 0=W at *
  have hm:0≤W % 4294967296∧W % 4294967296<4294967296:=by omega
  obtain⟨g1,g2,g3,g4⟩:=ih (i+1) (o.set i (W % 4294967296)) (-(W / 4294967296)) (by omega) (by simpa using hlo) (Q0 hu hm) (by omega) (fun j hj=>by rw[Qo (by omega)];exact hz j (by omega))
  refine⟨by simpa using g1,g2,g3,?_⟩
  rw[g4,Jy o i _ (by omega),ex,ey,hoz,Int.pow_succ]
  generalize (4294967296:Int)^i=p at *
  generalize Zj (xs.drop (i+1))=V at *
  generalize Zj (ys.drop (i+1))=U at *
  have e1:W=4294967296*(W / 4294967296)+W % 4294967296:=by omega
  have e2:c=xs.getD i 0-ys.getD i 0-W:=by omega
  rw[e2]
  generalize W / 4294967296=q at *
  generalize W % 4294967296=m at *
  generalize xs.getD i 0=a at *
  generalize ys.getD i 0=b at *
  subst e1
  grind
theorem Jk (n j:Nat):(List.replicate n (0:Int)).getD j 0=0:=by
 simp[List.getD_eq_getElem?_getD,List.getElem?_replicate];split <;> rfl
theorem Xk (n:Nat):U32 (List.replicate n 0):=fun x hx=>by rw [List.eq_of_mem_replicate hx];omega
theorem Zfs {xs ys:List Int} (hx:U32 xs) (hy:U32 ys) (hl:ys.length≤xs.length) (o:List Int) (c:Int) (e:G9 xs ys xs.length 0 (List.replicate (xs.length+1) 0) 0=(o,c)) :
  o.length=xs.length+1∧U32 o∧(0≤c∧c≤1)∧U32 (o.set xs.length c)∧Zj (o.set xs.length c)=Zj xs+Zj ys:=by
 obtain⟨g1,g2,g3,g4,g5⟩:=Zk8 hx hy hl xs.length 0 (List.replicate (xs.length+1) 0) 0 (by omega) (by simp) (Xk _) (by omega) (fun j _=>Jk _ j)
 rw[e] at g1 g2 g3 g4 g5
 dsimp only at g1 g2 g3 g4 g5
 have hlo:o.length=xs.length+1:=by simpa using g1
 refine⟨hlo,g2,g3,Q0 g2 (by omega),?_⟩
 rw[Jy o _ _ (by omega),g5 _ (Nat.le_refl _),Int.sub_zero,g4,Xc]
 simp
theorem Zdm {xs ys:List Int} (hx:U32 xs) (hy:U32 ys) (hl:ys.length≤xs.length) (hv:Zj ys≤Zj xs) (o:List Int) (c:Int) (e:Fg xs ys xs.length 0 (List.replicate xs.length 0) 0=(o,c)) :
  o.length=xs.length∧U32 o∧Zj o=Zj xs-Zj ys:=by
 obtain⟨g1,g2,g3,g4⟩:=Zjr hx hy hl xs.length 0 (List.replicate xs.length 0) 0 (by omega) (by simp) (Xk _) (by omega) (fun j _=>Jk _ j)
 rw[e] at g1 g2 g3 g4
 dsimp only at g1 g2 g3 g4
 have hlo:o.length=xs.length:=by simpa using g1
 refine⟨hlo,g2,?_⟩
 rw[Xc] at g4
 simp at g4
 have h1:=Xd g2
 rw[hlo] at h1
 have hp:=Q8 xs.length
 rcases (show c=0∨c=1 by omega) with h | h
 ·rw[g4,h];simp
 ·rw[h,Int.mul_one] at g4;omega
end Go.Ai

namespace Go.Ai
open Go.IntKind (i64 u64 u32)
abbrev Rn:=Bool × List Int
def Zn (r:Rn):Int:=rv r.1 r.2
def cn (n:Int):Rn:=(decide (n<0),Zb n.natAbs)
def pc (rs:List Rn):List AV:=rs.flatMap fun r=>[.bool r.1, .sl r.2.length (lm r.2)]
def Zi (rs:List Rn):List Int:=rs.map Zn
def pk (ps:List Int):List AV:=pc (ps.map cn)
def z0:Rn:=(false,[])
def Ju (K:Nat) (r:Rn):Prop:=U32 r.2∧r.2.length≤K
def Zt (r:Rn):AV := .agg [.bool r.1, .sl r.2.length (lm r.2)]
theorem Z9 (n:Int):Zn (cn n)=n:=V7 n
theorem Zq7:Zn z0=0:=rfl
theorem Z5 (ps:List Int):Zi (ps.map cn)=ps:=by
 unfold Zi
 rw[List.map_map]
 have:(Zn ∘ cn)=id:=funext Z9
 rw[this,List.map_id]
theorem Q5 {k:Nat} {n:Int} (h:Jg k n):Ju k (cn n):=⟨Qx _,h.len⟩
theorem R5 (k:Nat):Ju k z0:=⟨fun x hx=>(by cases hx),Nat.zero_le _⟩
theorem Ju.mono {j k:Nat} {r:Rn} (h:Ju j r) (hk:j≤k):Ju k r:=⟨h.1,Nat.le_trans h.2 hk⟩
theorem Ju.fits {k:Nat} {r:Rn} (h:Ju k r):Jg k (Zn r):=(P8 h.1).mono h.2
theorem La (rs:List Rn):(pc rs).length=rs.length*2:=by
 induction rs with
 | nil=>rfl
 | cons r rs ih=>simp only[pc,List.flatMap_cons,List.length_append,List.length_cons,List.length_nil] at ih ⊢;omega
theorem Fq (r:Rn) (rs:List Rn):pc (r::rs) = .bool r.1 :: .sl r.2.length (lm r.2)::pc rs:=rfl
theorem Gn (rs ss:List Rn):pc (rs++ss)=pc rs++pc ss:=by simp [pc]
theorem N1:∀ (i:Nat) (rs:List Rn),(pc rs).drop (i*2)=pc (rs.drop i)
 | 0,rs=>by simp
 | i+1,[]=>by simp[pc]
 | i+1,r::rs=>by
  rw[Fq,Nat.add_mul,Nat.one_mul]
  show (pc rs).drop (i*2)=_
  rw[N1 i rs];rfl
theorem Zd7:∀ (i:Nat) (rs:List Rn),(pc rs).take (i*2)=pc (rs.take i)
 | 0,rs=>by simp[pc]
 | i+1,[]=>by simp[pc]
 | i+1,r::rs=>by
  rw[Fq,Nat.add_mul,Nat.one_mul]
  show _::_::(pc rs).take (i*2)=_
  rw[Zd7 i rs];rfl
theorem Bv {rs:List Rn} {i:Nat} (h:i<rs.length):Z3 (List.drop (i*2) (pc rs)) 0 2 false=some (Zt (rs.getD i z0)):=by
 rw[N1,List.drop_eq_getElem_cons h,Fq]
 simp[Z3,Zt,List.getD_eq_getElem?_getD,List.getElem?_eq_getElem h]
theorem own_pc {rs:List Rn} {i:Nat} (h:i<rs.length):Z3 (pc rs) (i*2) 2 false=some (Zt (rs.getD i z0)):=by
 have h1:=Bv h
 have hl:=La rs
 simp only[Z3,Bool.false_eq_true,if_false,Nat.zero_add,List.drop_zero,List.length_drop] at h1 ⊢
 rw[if_pos (by omega)] at h1
 rw[if_pos (by omega)]
 exact h1
theorem Zeq {rs:List Rn} {i:Nat} {r:Rn} (h:i<rs.length):Xq (pc rs) (i*2) [.bool r.1, .sl r.2.length (lm r.2)]=some (pc (rs.set i r)):=by
 have hl:=La rs
 simp only[Xq,List.length_cons,List.length_nil]
 rw[if_pos (by omega)]
 congr 1
 have hs:rs.set i r=rs.take i++r::rs.drop (i+1):=by rw[List.set_eq_take_append_cons_drop,if_pos h]
 rw[hs,Gn,Fq,Zd7]
 have:(pc rs).drop (i*2+(0+1+1))=pc (rs.drop (i+1)):=by rw[← N1];congr 1;omega
 simp only[Nat.zero_add] at this
 rw[this]
 simp
theorem Nu (n:Nat):Q7 [.bool false, .sl 0 []] n=pc (List.replicate n z0):=by
 induction n with
 | zero=>rfl
 | succ n ih=>rw[List.replicate_succ,Fq,← ih];rfl
theorem Zp7 (rs:List Rn):List.all (pc rs) (fun c => !isI c)=true:=by
 rw[List.all_eq_true]
 intro c hc
 simp only[pc,List.mem_flatMap,List.mem_cons,List.not_mem_nil,or_false] at hc
 obtain⟨r,_,rfl | rfl⟩:=hc <;> rfl
theorem Zrm (xs:List Int):List.all (lm xs) isI=true:=by
 rw[List.all_eq_true]
 intro c hc
 simp only[lm,List.mem_map] at hc
 obtain⟨x,_,rfl⟩:=hc
 rfl
theorem Df (n:Int):U5 (Zl n)=true:=by
 simp only[Zl,U5,List.all_cons,G1,Zrm,List.all_nil,Bool.and_self]
theorem Zs (rs:List Rn):(Zi rs).length=rs.length:=by simp [Zi]
theorem Q2 (rs:List Rn) (i:Nat):(Zi rs).getD i 0=Zn (rs.getD i z0):=by
 simp only[Zi,List.getD_eq_getElem?_getD,List.getElem?_map]
 cases rs[i]? <;> rfl
theorem Z8 {K:Nat} {rs:List Rn} (h:∀ r∈rs,Ju K r) (i:Nat):Ju K (rs.getD i z0):=by
 rw[List.getD_eq_getElem?_getD]
 cases e:rs[i]? with
 | none=>exact R5 K
 | some r=>exact h r (List.mem_of_getElem? e)
theorem Be {k:Nat} {ps:List Int} (h:∀ x∈ps,Jg k x):∀ r∈ps.map cn,Ju k r:=fun r hr=>by
 obtain⟨x,hx,rfl⟩:=List.mem_map.1 hr
 exact Q5 (h x hx)
theorem Jf {k:Nat} {rs:List Rn} (h:∀ r∈rs,Ju k r):∀ x∈Zi rs,Jg k x:=fun x hx=>by
 obtain⟨r,hr,rfl⟩:=List.mem_map.1 hx
 exact (h r hr).fits
theorem Tv {xs ys:List Int} (h:∀ i,xs.getD i 0=ys.getD i 0):∀ n,Z0 xs n=Z0 ys n:=by
 intro n
 induction n with
 | zero=>rfl
 | succ n ih=>simp only[Z0,h n,ih]
theorem Mt (xs:List Int):∀ d,Z0 xs (xs.length+d)=Z0 xs xs.length:=by
 intro d
 induction d with
 | zero=>rfl
 | succ d ih =>
  rw[← Nat.add_assoc]
  simp only[Z0]
  rw[Qt (by omega),if_pos rfl,ih]
theorem Je (xs:List Int) (i:Nat):(Zc xs).getD i 0=xs.getD i 0:=by
 unfold Zc
 rcases Nat.lt_or_ge i (Z0 xs xs.length) with h | h
 ·simp only[List.getD_eq_getElem?_getD,List.getElem?_take,if_pos h]
 ·have e:(xs.take (Z0 xs xs.length)).getD i 0=0:=Qt (by simp;omega)
  rw[e]
  rcases Nat.lt_or_ge i xs.length with h2 | h2
  ·exact (Bn xs xs.length i h h2).symm
  ·exact (Qt h2).symm
theorem Hf {xs ys:List Int} (hl:xs.length=ys.length) (h:∀ i,xs.getD i 0=ys.getD i 0):xs=ys:=by
 apply List.ext_getElem hl
 intro i h1 h2
 have:=h i
 simpa [List.getD_eq_getElem?_getD,List.getElem?_eq_getElem h1,List.getElem?_eq_getElem h2] using this
theorem V6 {xs ys:List Int} (h:∀ i,xs.getD i 0=ys.getD i 0):Zc xs=Zc ys:=by
 have hlen:(Zc xs).length=(Zc ys).length:=by
  have h1:∀ zs:List Int,(Zc zs).length=Z0 zs zs.length:=fun zs=>by have:=Wv zs zs.length;simp[Zc];omega
  rw[h1,h1]
  rcases Nat.le_total xs.length ys.length with g | g
  ·have:=Mt xs (ys.length-xs.length)
   rw[show xs.length+(ys.length-xs.length)=ys.length by omega] at this
   rw[← this,Tv h]
  ·have:=Mt ys (xs.length-ys.length)
   rw[show ys.length+(xs.length-ys.length)=xs.length by omega] at this
   rw[← this,Tv h]
 refine Hf hlen fun i => ?_
 rw[Je,Je,h i]
theorem Ux (xs:List Int):(Zc xs).length=Z0 xs xs.length:=by have:=Wv xs xs.length;simp [Zc];omega
theorem Zag {xs:List Int} {x:Int} (h:x∈Zc xs):x∈xs:=List.mem_of_mem_take h
theorem Mr (xs:List Int):Zc (Zc xs)=Zc xs:=V6 (Je xs)
def Zg:List Int→Int→Int
 | [],_=>0
 | p::ps,x=>p+x*Zg ps x
theorem Es {xs:List Int} (h:∀ i,xs.getD i 0=0) (x:Int):Zg xs x=0:=by
 induction xs with
 | nil=>rfl
 | cons p ps ih =>
  have h0:=h 0
  simp at h0
  have:=ih (fun i=>by simpa using h (i+1))
  simp[Zg,h0,this]
theorem U8:∀ {xs ys:List Int},(∀ i,xs.getD i 0=ys.getD i 0)→∀ x,Zg xs x=Zg ys x
 | [],ys,h,x=>(Es (fun i=>(h i).symm) x).symm
 | p::ps,[],h,x=>Es (fun i=>h i) x
 | p::ps,q::qs,h,x=>by
  have h0:=h 0
  simp at h0
  simp only[Zg,h0]
  rw[U8 (fun i=>by simpa using h (i+1)) x]
theorem Vo (xs:List Int) (x:Int):Zg (Zc xs) x=Zg xs x:=U8 (Je xs) x
def Vy (g:Nat→Rn) (i r:Nat):List Rn:=(List.range i).map g++List.replicate r z0
theorem G2 (g:Nat→Rn) (i r:Nat):(Vy g i r).length=i+r:=by simp [Vy]
theorem Ar (g:Nat→Rn) (r:Nat):Vy g 0 r=List.replicate r z0:=by simp [Vy]
theorem As (g:Nat→Rn) (i:Nat):Vy g i 0=(List.range i).map g:=by simp [Vy]
theorem E1 (g:Nat→Rn) (i r:Nat):(Vy g i (r+1)).set i (g i)=Vy g (i+1) r:=by
 unfold Vy
 rw[List.set_append_right _ _ (by simp),List.range_succ,List.map_append,List.replicate_succ]
 simp
theorem K6 (g:Nat→Rn) (n i:Nat):(Zi ((List.range n).map g)).getD i 0=if i<n then Zn (g i) else 0:=by
 rw[Q2,List.getD_eq_getElem?_getD]
 by_cases h:i<n
 ·simp[h]
 ·simp[h,Zq7]
theorem Nv (xs:List Int):(List.range xs.length).map (fun i=>cn (xs.getD i 0))=xs.map cn:=by
 apply List.ext_getElem (by simp)
 intro i h1 h2
 have h3:i<xs.length:=by simpa using h2
 simp[List.getD_eq_getElem?_getD,List.getElem?_eq_getElem h3]
theorem Ak {K:Nat} {g:Nat→Rn} {n:Nat} (h:∀ i,i<n→Ju K (g i)):∀ r∈(List.range n).map g,Ju K r:=fun r hr=>by
 obtain⟨i,hi,rfl⟩:=List.mem_map.1 hr
 exact h i (List.mem_range.1 hi)
theorem Vb (k:Nat):Jg k 0:=by unfold Jg;simp;exact Nat.pow_pos (by decide)
theorem Ld {k:Nat} {xs:List Int} (h:∀ x∈xs,Jg k x) (i:Nat):Jg k (xs.getD i 0):=by
 rw[List.getD_eq_getElem?_getD]
 cases e:xs[i]? with
 | none=>exact Vb k
 | some x=>exact h x (List.mem_of_getElem? e)
def Bc (ps qs:List Int):List Int:=Zc ((List.range (max ps.length qs.length)).map fun i=>ps.getD i 0+qs.getD i 0)
def Vd (ps:List Int):List Int:=ps.map fun x => -x
theorem X8 (ps qs:List Int) (i:Nat):(Bc ps qs).getD i 0=ps.getD i 0+qs.getD i 0:=by
 unfold Bc
 rw[Je,List.getD_eq_getElem?_getD]
 by_cases h:i<max ps.length qs.length
 ·simp[h]
 ·have h1:ps.length≤i:=by omega
  have h2:qs.length≤i:=by omega
  rw[Qt h1,Qt h2]
  simp[h]
theorem Va (ps:List Int) (i:Nat):(Vd ps).getD i 0 = -(ps.getD i 0):=by
 unfold Vd
 simp only[List.getD_eq_getElem?_getD,List.getElem?_map]
 cases ps[i]? <;> simp
theorem Zeb (ps qs:List Int):Zc (Bc ps qs)=Bc ps qs:=Mr _
theorem Fo (xs:List Int) (x:Int):Zg xs x=xs.getD 0 0+x*Zg (xs.drop 1) x:=by
 cases xs <;> simp[Zg]
theorem Eb:∀ (n:Nat) (us bs cs:List Int),us.length≤n→bs.length≤n→cs.length≤n→(∀ i,cs.getD i 0=us.getD i 0+bs.getD i 0)→∀ x,Zg cs x=Zg us x+Zg bs x:=by
 intro n
 induction n with
 | zero =>
  intro us bs cs h1 h2 h3 _ x
  rw[List.eq_nil_of_length_eq_zero (by omega:us.length=0),List.eq_nil_of_length_eq_zero (by omega:bs.length=0),List.eq_nil_of_length_eq_zero (by omega:cs.length=0)]
  rfl
 | succ n ih =>
  intro us bs cs h1 h2 h3 h x
  rw[Fo us,Fo bs,Fo cs,h 0,ih (us.drop 1) (bs.drop 1) (cs.drop 1) (by simp;omega) (by simp;omega) (by simp;omega) (fun i=>by
   have:=h (i+1)
   simpa [List.getD_eq_getElem?_getD,Nat.add_comm] using this) x]
  rw[Int.mul_add]
  omega
theorem Jh (ps qs:List Int) (x:Int):Zg (Bc ps qs) x=Zg ps x+Zg qs x :=
 Eb (max (max ps.length qs.length) (Bc ps qs).length) ps qs _ (by omega) (by omega) (by omega) (X8 ps qs) x
theorem Hd (ps:List Int) (x:Int):Zg (Vd ps) x = -Zg ps x:=by
 induction ps with
 | nil=>rfl
 | cons p ps ih =>
  have:Vd (p::ps) = -p::Vd ps:=rfl
  rw[this]
  simp only[Zg,ih]
  rw[Int.mul_neg]
  omega
def vp (rs : List Rn) : Reg := .val (.sl rs.length (pc rs))
def bR (r : Rn) : Reg := .box [.bool r.1, .sl r.2.length (lm r.2)]
def bN (n : Int) : Reg := .box [.bool (decide (n < 0)), .sl ((Zb (Int.natAbs n)).length) (lm (Zb (Int.natAbs n)))]
end Go.Ai

namespace Go.Ai
open Go.IntKind (i64 u64 u32)
section
variable {prog:Nat→Option IFunc}
theorem Ja.cond_t {c:Opd} {a b:ICode} {s t:Zk} {ex:Ex} (h:c.av s=some (.bool true)) (h1:Ja prog a s ex t):Ja prog (.cond c a b) s ex t:=by
 obtain⟨n,h1⟩:=h1
 refine⟨n+1,?_⟩
 have e1:=Vz (Uq prog (show n≤n+1 by omega)) (Nat.le_refl n) h1
 simp only[evC,Dw,h,e1]
theorem Ja.cond_f {c:Opd} {a b:ICode} {s t:Zk} {ex:Ex} (h:c.av s=some (.bool false)) (h1:Ja prog b s ex t):Ja prog (.cond c a b) s ex t:=by
 obtain⟨n,h1⟩:=h1
 refine⟨n+1,?_⟩
 have e1:=Vz (Uq prog (show n≤n+1 by omega)) (Nat.le_refl n) h1
 simp only[evC,Dw,h,e1]
theorem Za.cond_t {c:Opd} {a b:ICode} {s t:Zk} {ex:Ex} {x:Bool} (h:c.av s=some (.bool x)) (hx:x=true) (h1:Za prog a s ex t):Za prog (.cond c a b) s ex t:=by
 subst hx
 obtain⟨u,k1,k2⟩:=h1
 exact⟨u,Ja.cond_t h k1,k2⟩
theorem Za.cond_f {c:Opd} {a b:ICode} {s t:Zk} {ex:Ex} {x:Bool} (h:c.av s=some (.bool x)) (hx:x=false) (h1:Za prog b s ex t):Za prog (.cond c a b) s ex t:=by
 subst hx
 obtain⟨u,k1,k2⟩:=h1
 exact⟨u,Ja.cond_f h k1,k2⟩
theorem Za.block_out {id:Nat} {c:ICode} {s t:Zk} {i:Nat} (h:Za prog c s (.exit i) t) (hi:i ≠ id):Za prog (.block id c) s (.exit i) t:=by
 obtain⟨u,k1,k2⟩:=h
 exact⟨u,Ja.block_out k1 hi,k2⟩
theorem Za.up {c:ICode} {ex:Ex} {fin:Zk} (st:Nat→Zk) (n:Nat) (hex:ex ≠ .norm) (step:∀ i,i<n→Za prog c (st i) .norm (st (i+1))) (out:Za prog c (st n) ex fin):∀ i,i≤n→Za prog (.loop c) (st i) ex fin:=by
 have key:∀ r i,i+r=n→Za prog (.loop c) (st i) ex fin:=by
  intro r
  induction r with
  | zero =>
   intro i hi
   have:i=n:=by omega
   subst this
   exact Za.loop_out out hex
  | succ r ih =>
   intro i hi
   exact Za.loop (step i (by omega)) (ih (i+1) (by omega))
 intro i hi
 exact key (n-i) i (by omega)
theorem Za.to {c:ICode} {ex:Ex} {s t s' t':Zk} (h:Za prog c s ex t) (hs:s=s') (ht:t=t'):Za prog c s' ex t':=hs ▸ ht ▸ h
end
theorem Vi {X:Int} {n:Nat} (h:0≤X∧X<(n:Int)):Int.toNat X<n:=by omega
theorem Z2 {xs:List Int} {X:Int} (h:0≤X∧X<(xs.length:Int)):Z3 (List.drop (Int.toNat X*1) (lm xs)) 0 1 true=some (.int .u32 (xs.getD (Int.toNat X) 0)):=J5 (Vi h)
theorem Zai (ws:List Int) (l h:Nat):List.take ((h-l)*1) (List.drop (l*1) (lm ws))=lm ((ws.drop l).take (h-l)):=by
 simp[lm,List.map_take,List.map_drop]
theorem Ei {ws:List Int} {l h m:Nat} {X:Int} {a b:Bool} (hx:0≤X∧X<((h-l:Nat):Int)) (hl:l≤h∧h≤m∧m≤ws.length∧(a=true→b=true)):Z3 (List.drop (Int.toNat X*1) (List.take ((h-l)*1) (List.drop (l*1) (lm ws)))) 0 1 true=some (.int .u32 (((ws.drop l).take (h-l)).getD (Int.toNat X) 0)):=by
 rw[Zai];exact J5 (by have:=Vi hx;simp;omega)
theorem Qs {xs:List Int} {n:Nat} (hl:xs.length=n) {X:Int} (h:0≤X∧X<(n:Int)):Z3 (lm xs) (Int.toNat X*1) 1 true=some (.int .u32 (xs.getD (Int.toNat X) 0)):=Rs (hl ▸ Vi h)
theorem Jd {xs:List Int} {n:Nat} (hl:xs.length=n) {X:Int} (h:0≤X∧X<(n:Int)) {v:Int}:Xq (lm xs) (Int.toNat X*1) [.int .u32 v]=some (lm (xs.set (Int.toNat X) v)):=Wz (hl ▸ Vi h)
theorem Qi {rs:List Rn} {X:Int} (h:0≤X∧X<(rs.length:Int)):Z3 (List.drop (Int.toNat X*2) (pc rs)) 0 2 false=some (Zt (rs.getD (Int.toNat X) z0)):=Bv (Vi h)
theorem Vv {rs:List Rn} {n:Nat} (hl:rs.length=n) {X:Int} (h:0≤X∧X<(n:Int)):Z3 (pc rs) (Int.toNat X*2) 2 false=some (Zt (rs.getD (Int.toNat X) z0)):=own_pc (hl ▸ Vi h)
theorem Wc {rs:List Rn} {n:Nat} (hl:rs.length=n) {X:Int} (h:0≤X∧X<(n:Int)) {r:Rn}:Xq (pc rs) (Int.toNat X*2) [.bool r.1, .sl r.2.length (lm r.2)]=some (pc (rs.set (Int.toNat X) r)):=Zeq (hl ▸ Vi h)
theorem Lq {rs:List Rn} {i:Nat} (h:i<rs.length):List.drop (i*2) (pc rs) = .bool (rs.getD i z0).1 :: .sl (rs.getD i z0).2.length (lm (rs.getD i z0).2)::pc (rs.drop (i+1)):=by
 rw[N1,List.drop_eq_getElem_cons h,Fq]
 simp[List.getD_eq_getElem?_getD,List.getElem?_eq_getElem h]
theorem Tw {rs:List Rn} {X:Int} (h:0≤X∧X<(rs.length:Int)):Z3 (List.drop 1 (List.drop (Int.toNat X*2) (pc rs))) 0 1 true=some (.sl (rs.getD (Int.toNat X) z0).2.length (lm (rs.getD (Int.toNat X) z0).2)):=by
 rw[Lq (Vi h)];rfl
def pp (ps:List (List Rn)):List AV:=ps.map fun rs => .sl rs.length (pc rs)
theorem pp_get {ps:List (List Rn)} {i:Nat} (h:i<ps.length):(pp ps)[i]?=some (.sl (ps.getD i []).length (pc (ps.getD i []))):=by
 simp[pp,List.getElem?_map,List.getElem?_eq_getElem h,List.getD_eq_getElem?_getD]
theorem Uj {ps:List (List Rn)} {X:Int} (h:0≤X∧X<(ps.length:Int)):Z3 (List.drop (Int.toNat X*1) (pp ps)) 0 1 true=some (.sl (ps.getD (Int.toNat X) []).length (pc (ps.getD (Int.toNat X) []))):=by
 simp only[Z3,if_true,Nat.mul_one,List.getElem?_drop,Nat.add_zero]
 exact pp_get (Vi h)
end Go.Ai

namespace Go.Ai
open Go.IntKind (i64 u64 u32)
theorem M6 (xs:List Int) (i:Nat) (v x:Int) (h:i<xs.length):Zg (xs.set i v) x=Zg xs x+x^i*(v-xs.getD i 0):=by
 induction xs generalizing i with
 | nil=>simp at h
 | cons p ps ih =>
  cases i with
  | zero=>simp only[List.set_cons_zero,Zg,Int.pow_zero,List.getD_cons_zero];omega
  | succ i =>
   simp only[List.set_cons_succ,Zg,List.getD_cons_succ]
   rw[ih i (by simpa using h),Int.pow_succ]
   generalize x^i=q
   generalize Zg ps x=y
   generalize ps.getD i 0=z
   grind
theorem B8 (n:Nat) (x:Int):Zg (List.replicate n 0) x=0:=by
 induction n with
 | zero=>rfl
 | succ n ih=>simp[List.replicate_succ,Zg,ih]
theorem pzero:∀ (d:List Int) (b:Int),(∀ x,b≤x→Zg d x=0)→∀ i,d.getD i 0=0
 | [],_,_,i=>by simp
 | c::d,b,h,i=>by
  have hc:c=0:=by
   have h1:=h (max b (c.natAbs+1)) (by omega)
   simp only[Zg] at h1
   have h2:(max b ((c.natAbs:Int)+1))∣c:=⟨-(Zg d (max b ((c.natAbs:Int)+1))),by rw[Int.mul_neg];omega⟩
   rcases Int.lt_trichotomy c 0 with g | g | g
   ·have:=Int.le_of_dvd (a:=max b ((c.natAbs:Int)+1)) (b := -c) (by omega) ((Int.dvd_neg).2 h2)
    omega
   ·exact g
   ·have:=Int.le_of_dvd (a:=max b ((c.natAbs:Int)+1)) (b:=c) (by omega) h2
    omega
  cases i with
  | zero=>simpa using hc
  | succ i =>
   have:=pzero d (max b 1) (fun x hx=>by
    have h1:=h x (by omega)
    simp only[Zg,hc,Int.zero_add] at h1
    rcases Int.mul_eq_zero.1 h1 with g | g
    ·omega
    ·exact g) i
   simpa using this
theorem Uf {p q:List Int} (h:∀ x,Zg p x=Zg q x) (i:Nat):p.getD i 0=q.getD i 0:=by
 have:=pzero (Bc p (Vd q)) 0 (fun x _=>by rw[Jh,Hd,h x];omega) i
 rw[X8,Va] at this
 omega
theorem Wh {p q:List Int} (h:∀ x,Zg p x=Zg q x):Zc p=Zc q:=V6 (Uf h)
def Zbn (p q:List Int):List Int:=Bc p (Vd q)
theorem Xz (p q:List Int) (x:Int):Zg (Zbn p q) x=Zg p x-Zg q x:=by rw [Zbn,Jh,Hd];omega
theorem Am (p q:List Int) (i:Nat):(Zbn p q).getD i 0=p.getD i 0-q.getD i 0:=by rw [Zbn,X8,Va];omega
def Zy (a:Int) (q:List Int):List Int:=q.map fun x=>a*x
theorem Zr (a:Int) (q:List Int) (x:Int):Zg (Zy a q) x=a*Zg q x:=by
 induction q with
 | nil=>simp[Zy,Zg]
 | cons c q ih =>
  have:Zy a (c::q)=a*c::Zy a q:=rfl
  rw[this]
  simp only[Zg,ih]
  generalize Zg q x=y
  grind
theorem Z6 (a:Int) (q:List Int) (i:Nat):(Zy a q).getD i 0=a*q.getD i 0:=by
 unfold Zy
 simp only[List.getD_eq_getElem?_getD,List.getElem?_map]
 cases q[i]? <;> simp
def Ut:List Int→List Int→List Int
 | [],_=>[]
 | a::p,q=>Bc (Zy a q) (0::Ut p q)
theorem Qb (p q:List Int) (x:Int):Zg (Ut p q) x=Zg p x*Zg q x:=by
 induction p with
 | nil=>simp[Ut,Zg]
 | cons a p ih =>
  simp only[Ut,Jh,Zr,Zg,ih]
  generalize Zg q x=y
  generalize Zg p x=z
  grind
theorem M5 (p q:List Int):Zc (Ut p q)=Ut p q:=by
 cases p with
 | nil=>rfl
 | cons a p=>exact Zeb _ _
theorem W1 {k:Nat} {p:List Int} (hp:∀ x∈p,Jg k x):∀ x∈Zc p,Jg k x:=fun x hx=>hp x (Zag hx)
theorem Zkc (p q:List Int):(Bc p q).length≤max p.length q.length:=by
 have:=Qc ((List.range (max p.length q.length)).map fun i=>p.getD i 0+q.getD i 0)
 simpa [Bc] using this
theorem Xy (p:List Int):(Vd p).length=p.length:=by simp [Vd]
def hv:List Int→Int→Int→Int
 | [],_,_=>0
 | t::ts,x,d=>t*d^ts.length+x*hv ts x d
end Go.Ai

namespace Go.Proofs.Ythnnfemologhfaa
open Go.IntKind (i64 u64 u32)
open Go.Ai
set_option maxRecDepth 100000
theorem Zfv (neg:Bool) (xs:List Int) (c1:((((Zc xs).length:Nat):Int)==0)=true) (n1:Ze Yir 125 [.sl xs.length (lm xs)] (.fresh 1 ((Zc xs).length) (lm (Zc xs)))):Ze Yir 81 [.agg [.bool neg, .sl xs.length (lm xs)]] (.int .i64 0):=Ze.go (fn:=Zxl) Qf rfl 400 rfl [.r (.fresh 1 ((Zc xs).length) (lm (Zc xs))), .b true] (ac n1 (ac c1 a0))
theorem Zfu (neg:Bool) (xs:List Int) (c1:((((Zc xs).length:Nat):Int)==0)=false) (c2:(neg)=true) (n1:Ze Yir 125 [.sl xs.length (lm xs)] (.fresh 1 ((Zc xs).length) (lm (Zc xs)))):Ze Yir 81 [.agg [.bool neg, .sl xs.length (lm xs)]] (.int .i64 (-1)):=Ze.go (fn:=Zxl) Qf rfl 400 rfl [.r (.fresh 1 ((Zc xs).length) (lm (Zc xs))), .b false, .b true] (ac n1 (ac c1 (ac c2 a0)))
theorem Zft (neg:Bool) (xs:List Int) (c1:((((Zc xs).length:Nat):Int)==0)=false) (c2:(neg)=false) (n1:Ze Yir 125 [.sl xs.length (lm xs)] (.fresh 1 ((Zc xs).length) (lm (Zc xs)))):Ze Yir 81 [.agg [.bool neg, .sl xs.length (lm xs)]] (.int .i64 1):=Ze.go (fn:=Zxl) Qf rfl 400 rfl [.r (.fresh 1 ((Zc xs).length) (lm (Zc xs))), .b false, .b false] (ac n1 (ac c1 (ac c2 a0)))
theorem Zsu (neg:Bool) (xs:List Int) (v:Int) (n1:Ze Yir 106 [.bool (!neg), .sl xs.length (lm xs)] (Us v)):Ze Yir 117 [.agg [.bool neg, .sl xs.length (lm xs)]] (Zl v):=Ze.go (fn:=Zie) Qf rfl 400 rfl [.r (Us v)] (ac n1 a0)
theorem Yrun93 (neg:Bool) (xs:List Int) (v:Int) (n1:Ze Yir 106 [.bool neg, .sl xs.length (lm xs)] (Us v)):Ze Yir 93 [.agg [.bool neg, .sl xs.length (lm xs)]] (Zl v):=Ze.go (fn:=Yi93) Qf rfl 400 rfl [.r (Us v)] (ac n1 a0)
def Ht (xs:List Int) (ys:List Int) (n:Nat) (cs:List AV) (c:Int) (i:Int):Zk:=(.val (.sl xs.length (lm xs))::(.val (.sl ys.length (lm ys))::(dds 3 (.own 1 n cs::(.val (.int .u64 c)::(.val (.int .i64 i)::(dds 46 [])))))))
theorem Zul (xs:List Int) (ys:List Int) (n:Nat) (cs:List AV) (c:Int) (i:Int)  (c1:(decide (i<(xs.length:Int)))=true) (c2:(decide (i<(ys.length:Int)))=true) (n1:0≤i∧i<(xs.length:Int)) (n2:0≤i∧i<(ys.length:Int)) (n3:n+1≤1048576):Za Yir Mm (Ht xs ys n cs c i) .norm (Ht xs ys (n+1) (cs++([.int .u32 (u32.wrap (u64.wrap ((u64.wrap (c+(u64.wrap (xs.getD (Int.toNat i) 0))))+(u64.wrap (ys.getD (Int.toNat i) 0)))))]:List AV)) (Int.fdiv (u64.wrap ((u64.wrap (c+(u64.wrap (xs.getD (Int.toNat i) 0))))+(u64.wrap (ys.getD (Int.toNat i) 0)))) (2^(min (Int.toNat 32) (IntKind.bits .u64)))) (i64.wrap (i+1))):=(Za.go Qf 400 [.b true, .b true, .b true, .b true, .v (.int .u32 (xs.getD (Int.toNat i) 0)), .b true, .v (.int .u32 (ys.getD (Int.toNat i) 0))] [0,1,5,6,7] (ac c1 (ac (show true=true from rfl) (ac (show true=true from rfl) (ac c1 (ac n1 (ac (Z2 n1) (ac c2 (ac n2 (ac (Z2 n2) (ac (show List.length ([.int .u32 (u32.wrap (u64.wrap ((u64.wrap (c+(u64.wrap (xs.getD (Int.toNat i) 0))))+(u64.wrap (ys.getD (Int.toNat i) 0)))))]:List AV)=1*1 from rfl) (ac n3 (ac (show ¬ (32:Int)<0 from (by decide)) a0)))))))))))))
theorem Zuk (xs:List Int) (ys:List Int) (n:Nat) (cs:List AV) (c:Int) (i:Int)  (c1:(decide (i<(xs.length:Int)))=true) (c2:(decide (i<(ys.length:Int)))=false) (n1:0≤i∧i<(xs.length:Int)) (n2:n+1≤1048576):Za Yir Mm (Ht xs ys n cs c i) .norm (Ht xs ys (n+1) (cs++([.int .u32 (u32.wrap (u64.wrap (c+(u64.wrap (xs.getD (Int.toNat i) 0)))))]:List AV)) (Int.fdiv (u64.wrap (c+(u64.wrap (xs.getD (Int.toNat i) 0)))) (2^(min (Int.toNat 32) (IntKind.bits .u64)))) (i64.wrap (i+1))):=(Za.go Qf 400 [.b true, .b true, .b true, .b true, .v (.int .u32 (xs.getD (Int.toNat i) 0)), .b false] [0,1,5,6,7] (ac c1 (ac (show true=true from rfl) (ac (show true=true from rfl) (ac c1 (ac n1 (ac (Z2 n1) (ac c2 (ac (show List.length ([.int .u32 (u32.wrap (u64.wrap (c+(u64.wrap (xs.getD (Int.toNat i) 0)))))]:List AV)=1*1 from rfl) (ac n2 (ac (show ¬ (32:Int)<0 from (by decide)) a0)))))))))))
theorem Zuj (xs:List Int) (ys:List Int) (n:Nat) (cs:List AV) (c:Int) (i:Int)  (c1:(decide (i<(xs.length:Int)))=false) (c2:(decide (i<(ys.length:Int)))=true) (n1:0≤i∧i<(ys.length:Int)) (n2:n+1≤1048576):Za Yir Mm (Ht xs ys n cs c i) .norm (Ht xs ys (n+1) (cs++([.int .u32 (u32.wrap (u64.wrap (c+(u64.wrap (ys.getD (Int.toNat i) 0)))))]:List AV)) (Int.fdiv (u64.wrap (c+(u64.wrap (ys.getD (Int.toNat i) 0)))) (2^(min (Int.toNat 32) (IntKind.bits .u64)))) (i64.wrap (i+1))):=(Za.go Qf 400 [.b false, .b true, .b true, .b false, .b true, .v (.int .u32 (ys.getD (Int.toNat i) 0))] [0,1,5,6,7] (ac c1 (ac c2 (ac (show true=true from rfl) (ac c1 (ac c2 (ac n1 (ac (Z2 n1) (ac (show List.length ([.int .u32 (u32.wrap (u64.wrap (c+(u64.wrap (ys.getD (Int.toNat i) 0)))))]:List AV)=1*1 from rfl) (ac n2 (ac (show ¬ (32:Int)<0 from (by decide)) a0)))))))))))
theorem Zui (xs:List Int) (ys:List Int) (n:Nat) (cs:List AV) (c:Int) (i:Int)  (c1:(decide (i<(xs.length:Int)))=false) (c2:(decide (i<(ys.length:Int)))=false) (c3:(decide (c>0))=true) (n1:n+1≤1048576):Za Yir Mm (Ht xs ys n cs c i) .norm (Ht xs ys (n+1) (cs++([.int .u32 (u32.wrap c)]:List AV)) (Int.fdiv c (2^(min (Int.toNat 32) (IntKind.bits .u64)))) (i64.wrap (i+1))):=(Za.go Qf 400 [.b false, .b false, .b true, .b false, .b false] [0,1,5,6,7] (ac c1 (ac c2 (ac c3 (ac c1 (ac c2 (ac (show List.length ([.int .u32 (u32.wrap c)]:List AV)=1*1 from rfl) (ac n1 (ac (show ¬ (32:Int)<0 from (by decide)) a0)))))))))
theorem Zhr (xs:List Int) (ys:List Int) (n:Nat) (cs:List AV) (c:Int) (i:Int)  (c1:(decide (i<(xs.length:Int)))=false) (c2:(decide (i<(ys.length:Int)))=false) (c3:(decide (c>0))=false):Za Yir Mm (Ht xs ys n cs c i) (.exit 0) (Ht xs ys n cs c i):=(Za.go Qf 400 [.b false, .b false, .b false] [0,1,5,6,7] (ac c1 (ac c2 (ac c3 a0))))
theorem Zsi (xs ys:List Int) (n:Nat) (cs:List AV) (c i:Int) (hl1:Za Yir (.loop Mm) (Ht xs ys 0 [] 0 0) (.exit 0) (Ht xs ys n cs c i)):Ze Yir 138 [.sl xs.length (lm xs), .sl ys.length (lm ys)] (.fresh 1 n cs):=Ze.of_bodyW (fn:=Zh4) (s:=(dds 1 (.val (.sl ys.length (lm ys))::(dds 2 (.own 1 n cs::(dds 49 [])))))) (ex := .ret) rfl rfl (Za.seq (Za.go (t:=(vl xs::(vl ys::(dds 2 (.own 1 0 []::(dds 49 [])))))) Qf 400 [] [0,1,4] a0) (Za.seq (Za.go (t:=(vl xs::(vl ys::(dds 2 (.own 1 0 []::(.own 1 0 []::(dds 48 []))))))) Qf 400 [] [0,1,4,5] a0) (Za.seq (Za.go (t:=(vl xs::(vl ys::(dds 2 (.own 1 0 []::(.own 1 0 []::(.val (.int .u64 0)::(dds 47 [])))))))) Qf 400 [] [0,1,4,5,6] a0) (Za.seq (Za.seq (Za.go Qf 400 [] [0,1,5,6,7] a0) (Za.block hl1)) (Za.go Qf 400 [] [1,4] a0))))) (by intro i e;cases e) rfl
def D0 (xs:List Int) (ys:List Int) (n:Nat) (cs:List AV) (c:Int) (i:Int):Zk:=(.val (.sl xs.length (lm xs))::(.val (.sl ys.length (lm ys))::(dds 3 (.own 1 n cs::(.val (.int .u64 c)::(.val (.int .i64 i)::(dds 34 [])))))))
theorem Zud (xs:List Int) (ys:List Int) (n:Nat) (cs:List AV) (c:Int) (i:Int)  (c1:(decide (i<(xs.length:Int)))=true) (c2:(decide (i<(ys.length:Int)))=true) (n1:0≤i∧i<(ys.length:Int)) (n2:0≤i∧i<(xs.length:Int)) (n3:n+1≤1048576):Za Yir Th (D0 xs ys n cs c i) .norm (D0 xs ys (n+1) (cs++([.int .u32 (u32.wrap (u64.wrap ((u64.wrap ((u64.wrap (xs.getD (Int.toNat i) 0))-(u64.wrap (ys.getD (Int.toNat i) 0))))-c)))]:List AV)) (Int.fdiv (u64.wrap ((u64.wrap ((u64.wrap (xs.getD (Int.toNat i) 0))-(u64.wrap (ys.getD (Int.toNat i) 0))))-c)) (2^(min (Int.toNat 63) (IntKind.bits .u64)))) (i64.wrap (i+1))):=(Za.go Qf 400 [.b true, .b true, .v (.int .u32 (ys.getD (Int.toNat i) 0)), .v (.int .u32 (xs.getD (Int.toNat i) 0))] [0,1,5,6,7] (ac c1 (ac c2 (ac n1 (ac (Z2 n1) (ac n2 (ac (Z2 n2) (ac (show List.length ([.int .u32 (u32.wrap (u64.wrap ((u64.wrap ((u64.wrap (xs.getD (Int.toNat i) 0))-(u64.wrap (ys.getD (Int.toNat i) 0))))-c)))]:List AV)=1*1 from rfl) (ac n3 (ac (show ¬ (63:Int)<0 from (by decide)) a0))))))))))
theorem Zuc (xs:List Int) (ys:List Int) (n:Nat) (cs:List AV) (c:Int) (i:Int)  (c1:(decide (i<(xs.length:Int)))=true) (c2:(decide (i<(ys.length:Int)))=false) (n1:0≤i∧i<(xs.length:Int)) (n2:n+1≤1048576):Za Yir Th (D0 xs ys n cs c i) .norm (D0 xs ys (n+1) (cs++([.int .u32 (u32.wrap (u64.wrap ((u64.wrap ((u64.wrap (xs.getD (Int.toNat i) 0))-0))-c)))]:List AV)) (Int.fdiv (u64.wrap ((u64.wrap ((u64.wrap (xs.getD (Int.toNat i) 0))-0))-c)) (2^(min (Int.toNat 63) (IntKind.bits .u64)))) (i64.wrap (i+1))):=(Za.go Qf 400 [.b true, .b false, .v (.int .u32 (xs.getD (Int.toNat i) 0))] [0,1,5,6,7] (ac c1 (ac c2 (ac n1 (ac (Z2 n1) (ac (show List.length ([.int .u32 (u32.wrap (u64.wrap ((u64.wrap ((u64.wrap (xs.getD (Int.toNat i) 0))-0))-c)))]:List AV)=1*1 from rfl) (ac n2 (ac (show ¬ (63:Int)<0 from (by decide)) a0))))))))
theorem Zub (xs:List Int) (ys:List Int) (n:Nat) (cs:List AV) (c:Int) (i:Int)  (c1:(decide (i<(xs.length:Int)))=false):Za Yir Th (D0 xs ys n cs c i) (.exit 0) (D0 xs ys n cs c i):=(Za.go Qf 400 [.b false] [0,1,5,6,7] (ac c1 a0))
theorem Zsh (xs ys:List Int) (n:Nat) (cs:List AV) (c i:Int) (hl1:Za Yir (.loop Th) (D0 xs ys 0 [] 0 0) (.exit 0) (D0 xs ys n cs c i)):Ze Yir 140 [.sl xs.length (lm xs), .sl ys.length (lm ys)] (.fresh 1 n cs):=Ze.of_bodyW (fn:=Zh3) (s:=(dds 1 (.val (.sl ys.length (lm ys))::(dds 2 (.own 1 n cs::(dds 37 [])))))) (ex := .ret) rfl rfl (Za.seq (Za.go (t:=(vl xs::(vl ys::(dds 2 (.own 1 0 []::(dds 37 [])))))) Qf 400 [] [0,1,4] a0) (Za.seq (Za.go (t:=(vl xs::(vl ys::(dds 2 (.own 1 0 []::(.own 1 0 []::(dds 36 []))))))) Qf 400 [] [0,1,4,5] a0) (Za.seq (Za.go (t:=(vl xs::(vl ys::(dds 2 (.own 1 0 []::(.own 1 0 []::(.val (.int .u64 0)::(dds 35 [])))))))) Qf 400 [] [0,1,4,5,6] a0) (Za.seq (Za.seq (Za.go Qf 400 [] [0,1,5,6,7] a0) (Za.block hl1)) (Za.go Qf 400 [] [1,4] a0))))) (by intro i e;cases e) rfl
theorem Wy (xs:List Int) (v:Int):lm xs++([.int .u32 v]:List AV)=lm (xs++[v]):=by simp [lm]
theorem Gf {xs:List Int} (h:U32 xs) {v:Int} (hv:0≤v∧v<4294967296):U32 (xs++[v]):=by
 intro x hx
 rcases List.mem_append.1 hx with g | g
 ·exact h x g
 ·rw[List.mem_singleton.1 g];exact hv
theorem Kn (xs:List Int) (v:Int):Zj (xs++[v])=Zj xs+4294967296^xs.length*v:=by rw [Ub];simp [Zj]
theorem sr32 {s:Int}:Int.fdiv s (2^(min (Int.toNat 32) (IntKind.bits .u64)))=s / 4294967296:=by
 show Int.fdiv s 4294967296=_
 rw[Int.fdiv_eq_ediv_of_nonneg _ (by omega)]
theorem sr63 {s:Int}:Int.fdiv s (2^(min (Int.toNat 63) (IntKind.bits .u64)))=s / 9223372036854775808:=by
 show Int.fdiv s 9223372036854775808=_
 rw[Int.fdiv_eq_ediv_of_nonneg _ (by omega)]
theorem Zmi {xs ys:List Int} (hx:U32 xs) (hy:U32 ys) (h1:xs.length<1048576) (h2:ys.length<1048576):∀ (r i:Nat) (acc:List Int) (c:Int),i+r=max xs.length ys.length→acc.length=i→U32 acc→0≤c∧c≤1 →
  ∃ (zs:List Int) (c' i':Int),U32 zs∧zs.length≤max xs.length ys.length+1∧Zj zs=Zj acc+4294967296^i*(c+Zj (xs.drop i)+Zj (ys.drop i)) ∧
   Za Yir (.loop Mm) (Ht xs ys i (lm acc) c (i:Nat)) (.exit 0) (Ht xs ys zs.length (lm zs) c' i'):=by
 intro r
 induction r with
 | zero =>
  intro i acc c hi hl hu hc
  have e1:Zj (xs.drop i)=0:=J0 (by omega)
  have e2:Zj (ys.drop i)=0:=J0 (by omega)
  have g1:decide ((i:Int)<(xs.length:Int))=false:=by simp;omega
  have g2:decide ((i:Int)<(ys.length:Int))=false:=by simp;omega
  by_cases hc0:c=0
  ·refine⟨acc,c,i,hu,by omega,by rw[e1,e2,hc0];simp,?_⟩
   rw[hl]
   exact Za.loop_out (Zhr xs ys i (lm acc) c (i:Nat) g1 g2 (by simp;omega)) (by intro e;cases e)
  ·have hc1:c=1:=by omega
   subst hc1
   refine⟨acc++[1],0,i64.wrap ((i:Int)+1),Gf hu (by omega),by simp;omega,by rw[Kn,e1,e2,hl];simp,?_⟩
   have k:=Zui xs ys i (lm acc) 1 (i:Nat) g1 g2 (by simp) (by omega)
   rw[sr32,Wt,show (1:Int) % 4294967296=1 by decide,show (1:Int) / 4294967296=0 by decide,Wy] at k
   have ei:i64.wrap ((i:Int)+1)=((i+1:Nat):Int):=by rw[w64 (by omega) (by omega)];omega
   rw[ei] at k ⊢
   have k2:=Zhr xs ys (i+1) (lm (acc++[1])) 0 ((i+1:Nat):Int) (by simp;omega) (by simp;omega) (by simp)
   have hll:(acc++[1]).length=i+1:=by simp[hl]
   rw[hll]
   exact Za.loop k (Za.loop_out k2 (by intro e;cases e))
 | succ r ih =>
  intro i acc c hi hl hu hc
  have bx:=Zu hx i
  have byy:=Zu hy i
  have ei:i64.wrap ((i:Int)+1)=((i+1:Nat):Int):=by rw[w64 (by omega) (by omega)];omega
  have step:Za Yir Mm (Ht xs ys i (lm acc) c (i:Nat)) .norm (Ht xs ys (i+1) (lm (acc++[(c+xs.getD i 0+ys.getD i 0) % 4294967296])) ((c+xs.getD i 0+ys.getD i 0) / 4294967296) ((i+1:Nat):Int)):=by
   have wx:u64.wrap (xs.getD i 0)=xs.getD i 0:=by rw[Qw];omega
   have wy:u64.wrap (ys.getD i 0)=ys.getD i 0:=by rw[Qw];omega
   by_cases g1:i<xs.length <;> by_cases g2:i<ys.length
   ·have k:=Zul xs ys i (lm acc) c (i:Nat) (by simp;omega) (by simp;omega) (by omega) (by omega) (by omega)
    have w1:u64.wrap (u64.wrap (c+xs.getD i 0)+ys.getD i 0)=c+xs.getD i 0+ys.getD i 0:=by rw[Qw,Qw];omega
    simp only[Int.toNat_natCast,wx,wy,w1,sr32,Wt,ei,Wy] at k
    exact k
   ·have k:=Zuk xs ys i (lm acc) c (i:Nat) (by simp;omega) (by simp;omega) (by omega) (by omega)
    have hz:ys.getD i 0=0:=Qt (by omega)
    have w1:u64.wrap (c+xs.getD i 0)=c+xs.getD i 0+ys.getD i 0:=by rw[Qw,hz];omega
    simp only[Int.toNat_natCast,wx,w1,sr32,Wt,ei,Wy] at k
    exact k
   ·have k:=Zuj xs ys i (lm acc) c (i:Nat) (by simp;omega) (by simp;omega) (by omega) (by omega)
    have hz:xs.getD i 0=0:=Qt (by omega)
    have w1:u64.wrap (c+ys.getD i 0)=c+xs.getD i 0+ys.getD i 0:=by rw[Qw,hz];omega
    simp only[Int.toNat_natCast,wy,w1,sr32,Wt,ei,Wy] at k
    exact k
   ·omega
  obtain⟨zs,c',i',q1,q2,q3,q4⟩:=ih (i+1) (acc++[(c+xs.getD i 0+ys.getD i 0) % 4294967296]) ((c+xs.getD i 0+ys.getD i 0) / 4294967296) (by omega) (by simp[hl]) (Gf hu (by omega)) (by omega)
  refine⟨zs,c',i',q1,q2,?_,Za.loop step q4⟩
  rw[q3,Kn,hl,Qy xs i,Qy ys i,Int.pow_succ]
  have hd:=Int.emod_add_mul_ediv (c+xs.getD i 0+ys.getD i 0) 4294967296
  generalize (c+xs.getD i 0+ys.getD i 0) % 4294967296=m at *
  generalize (c+xs.getD i 0+ys.getD i 0) / 4294967296=d at *
  generalize (4294967296:Int)^i=p at *
  generalize Zj (xs.drop (i+1))=X at *
  generalize Zj (ys.drop (i+1))=Y at *
  have:c+(xs.getD i 0+4294967296*X)+(ys.getD i 0+4294967296*Y)=m+4294967296*(d+X+Y):=by omega
  rw[this]
  grind
theorem Zca {xs ys:List Int} (hx:U32 xs) (hy:U32 ys) (h1:xs.length<1048576) (h2:ys.length<1048576):∃ zs,U32 zs∧Zj zs=Zj xs+Zj ys∧zs.length≤max xs.length ys.length+1∧Ze Yir 138 [.sl xs.length (lm xs), .sl ys.length (lm ys)] (.fresh 1 zs.length (lm zs)):=by
 obtain⟨zs,c',i',q1,q2,q3,q4⟩:=Zmi hx hy h1 h2 (max xs.length ys.length) 0 [] 0 (by omega) rfl (fun x hx=>by cases hx) (by omega)
 refine⟨zs,q1,by rw[q3];simp[Zj],q2,?_⟩
 exact Zsi xs ys _ _ _ _ q4
theorem Zmg {xs ys:List Int} (hx:U32 xs) (hy:U32 ys) (hl2:ys.length≤xs.length) (h1:xs.length≤1048576):∀ (r i:Nat) (acc:List Int) (c:Int),i+r=xs.length→acc.length=i→U32 acc→0≤c∧c≤1 →
  ∃ (zs:List Int) (c' i':Int),U32 zs∧zs.length=xs.length∧0≤c'∧Zj zs-4294967296^xs.length*c'=Zj acc+4294967296^i*(Zj (xs.drop i)-Zj (ys.drop i)-c) ∧
   Za Yir (.loop Th) (D0 xs ys i (lm acc) c (i:Nat)) (.exit 0) (D0 xs ys zs.length (lm zs) c' i'):=by
 intro r
 induction r with
 | zero =>
  intro i acc c hi hl hu hc
  have e1:Zj (xs.drop i)=0:=J0 (by omega)
  have e2:Zj (ys.drop i)=0:=J0 (by omega)
  have hii:xs.length=i:=by omega
  refine⟨acc,c,i,hu,by omega,hc.1,by rw[e1,e2,hii];grind,?_⟩
  rw[hl]
  exact Za.loop_out (Zub xs ys i (lm acc) c (i:Nat) (by simp;omega)) (by intro e;cases e)
 | succ r ih =>
  intro i acc c hi hl hu hc
  have bx:=Zu hx i
  have byy:=Zu hy i
  have ei:i64.wrap ((i:Int)+1)=((i+1:Nat):Int):=by rw[w64 (by omega) (by omega)];omega
  have step:Za Yir Th (D0 xs ys i (lm acc) c (i:Nat)) .norm (D0 xs ys (i+1) (lm (acc++[(xs.getD i 0-ys.getD i 0-c) % 4294967296])) (-((xs.getD i 0-ys.getD i 0-c) / 4294967296)) ((i+1:Nat):Int)):=by
   have wx:u64.wrap (xs.getD i 0)=xs.getD i 0:=by rw[Qw];omega
   have wy:u64.wrap (ys.getD i 0)=ys.getD i 0:=by rw[Qw];omega
   by_cases g2:i<ys.length
   ·have k:=Zud xs ys i (lm acc) c (i:Nat) (by simp;omega) (by simp;omega) (by omega) (by omega) (by omega)
    have w1:u64.wrap (u64.wrap (xs.getD i 0-ys.getD i 0)-c) % 4294967296=(xs.getD i 0-ys.getD i 0-c) % 4294967296:=by rw[Qw,Qw];omega
    have w2:u64.wrap (u64.wrap (xs.getD i 0-ys.getD i 0)-c) / 9223372036854775808 = -((xs.getD i 0-ys.getD i 0-c) / 4294967296):=by rw[Qw,Qw];omega
    simp only[Int.toNat_natCast,wx,wy,sr63,Wt,w1,w2,ei,Wy] at k
    exact k
   ·have k:=Zuc xs ys i (lm acc) c (i:Nat) (by simp;omega) (by simp;omega) (by omega) (by omega)
    have hz:ys.getD i 0=0:=Qt (by omega)
    have w1:u64.wrap (u64.wrap (xs.getD i 0-0)-c) % 4294967296=(xs.getD i 0-ys.getD i 0-c) % 4294967296:=by rw[Qw,Qw,hz];omega
    have w2:u64.wrap (u64.wrap (xs.getD i 0-0)-c) / 9223372036854775808 = -((xs.getD i 0-ys.getD i 0-c) / 4294967296):=by rw[Qw,Qw,hz];omega
    simp only[Int.toNat_natCast,wx,sr63,Wt,w1,w2,ei,Wy] at k
    exact k
  obtain⟨zs,c',i',q1,q2,q0,q3,q4⟩:=ih (i+1) (acc++[(xs.getD i 0-ys.getD i 0-c) % 4294967296]) (-((xs.getD i 0-ys.getD i 0-c) / 4294967296)) (by omega) (by simp[hl]) (Gf hu (by omega)) (by omega)
  refine⟨zs,c',i',q1,q2,q0,?_,Za.loop step q4⟩
  rw[q3,Kn,hl,Qy xs i,Qy ys i,Int.pow_succ]
  have hd:=Int.emod_add_mul_ediv (xs.getD i 0-ys.getD i 0-c) 4294967296
  generalize (xs.getD i 0-ys.getD i 0-c) % 4294967296=m at *
  generalize (xs.getD i 0-ys.getD i 0-c) / 4294967296=d at *
  generalize (4294967296:Int)^i=p at *
  generalize Zj (xs.drop (i+1))=X at *
  generalize Zj (ys.drop (i+1))=Y at *
  have:xs.getD i 0+4294967296*X-(ys.getD i 0+4294967296*Y)-c=m+4294967296*(d+X-Y):=by omega
  rw[this]
  grind
theorem Ej {xs ys:List Int} (hx:U32 xs) (hy:U32 ys) (hl:ys.length≤xs.length) (hv:Zj ys≤Zj xs) (h1:xs.length≤1048576):∃ zs,U32 zs∧Zj zs=Zj xs-Zj ys∧zs.length=xs.length∧Ze Yir 140 [.sl xs.length (lm xs), .sl ys.length (lm ys)] (.fresh 1 zs.length (lm zs)):=by
 obtain⟨zs,c',i',q1,q2,q0,q3,q4⟩:=Zmg hx hy hl h1 xs.length 0 [] 0 (by omega) rfl (fun x hx=>by cases hx) (by omega)
 simp only[Zj,Int.pow_zero,List.drop_zero,Int.one_mul,Int.zero_add,Int.sub_zero] at q3
 have hlt:=Xd q1
 rw[q2] at hlt
 have hp:=Q8 xs.length
 have hc:c'=0:=by
  generalize (4294967296:Int)^xs.length=p at *
  rcases Int.lt_or_le 0 c' with g | g
  ·have:p*1≤p*c':=Int.mul_le_mul_of_nonneg_left (by omega) (by omega)
   omega
  ·omega
 subst hc
 refine⟨zs,q1,by simpa using q3,q2,?_⟩
 exact Zsh xs ys _ _ _ _ q4
theorem U0 {neg:Bool} {xs:List Int} (hu:U32 xs) (hN:xs.length≤1048576):Ze Yir 106 [.bool neg, .sl xs.length (lm xs)] (Us (rv neg xs)):=Ad hu hN
theorem Uk {neg:Bool} {xs:List Int} (hu:U32 xs) (hN:xs.length≤1048576):Ze Yir 81 [.agg [.bool neg, .sl xs.length (lm xs)]] (.int .i64 (Xh (rv neg xs))):=by
 have hm:=Xe hN
 have hz:(Zc xs).length=0↔Zj xs=0:=by
  have:=Zx hu
  rw[Wu hu,J6];omega
 have hv:=Zx hu
 by_cases h0:Zj xs=0
 ·have h:=Zfv neg xs (by rw[beq_iff_eq];omega) hm
  have e:Xh (rv neg xs)=0:=by unfold rv;rw[h0];cases neg <;> rfl
  rw[e];exact h
 ·cases neg with
  | true =>
   have h:=Zfu true xs (by rw[beq_eq_false_iff_ne];omega) rfl hm
   have e:Xh (rv true xs) = -1:=by simp only[rv,if_true,Xh]; (repeat' split) <;> omega
   rw[e];exact h
  | false =>
   have h:=Zft false xs (by rw[beq_eq_false_iff_ne];omega) rfl hm
   have e:Xh (rv false xs)=1:=by simp only[rv,Bool.false_eq_true,if_false,Xh]; (repeat' split) <;> omega
   rw[e];exact h
theorem Zq8 (neg:Bool) (xs:List Int):rv (!neg) xs = -(rv neg xs):=by unfold rv;cases neg <;> simp
theorem Nt {neg:Bool} {xs:List Int} (hu:U32 xs) (hN:xs.length≤1048576):Ze Yir 117 [.agg [.bool neg, .sl xs.length (lm xs)]] (Zl (-(rv neg xs))):=by
 have h:=U0 (neg := !neg) hu hN
 rw[Zq8] at h
 exact Zsu neg xs _ h
theorem Zdq {neg:Bool} {xs:List Int} (hu:U32 xs) (hN:xs.length≤1048576):Ze Yir 93 [.agg [.bool neg, .sl xs.length (lm xs)]] (Zl (rv neg xs)):=Yrun93 neg xs _ (U0 hu hN)
theorem Zl6 (na nb:Bool) (xs ys zs:List Int) (v:Int) (n1:Ze Yir 125 [.sl xs.length (lm xs)] (.fresh 1 ((Zc xs).length) (lm (Zc xs)))) (n2:Ze Yir 125 [.sl ys.length (lm ys)] (.fresh 1 ((Zc ys).length) (lm (Zc ys)))) (n3:Ze Yir 141 [.sl ((Zc xs).length) (lm (Zc xs)), .sl ((Zc ys).length) (lm (Zc ys))] (.fresh 1 zs.length (lm zs))) (n4:Ze Yir 106 [.bool (!(na==nb)), .sl zs.length (lm zs)] (Us v)):Ze Yir 105 [.agg [.bool na, .sl xs.length (lm xs)], .agg [.bool nb, .sl ys.length (lm ys)]] (Zl v):=Ze.go (fn:=Zij) Qf rfl 400 rfl [.r (.fresh 1 ((Zc xs).length) (lm (Zc xs))), .r (.fresh 1 ((Zc ys).length) (lm (Zc ys))), .r (.fresh 1 zs.length (lm zs)), .r (Us v)] (ac n1 (ac n2 (ac n3 (ac n4 a0))))
theorem Zg4 (na nb:Bool) (xs ys zs:List Int) (v:Int) (c1:(na==nb)=true) (n1:Ze Yir 125 [.sl xs.length (lm xs)] (.fresh 1 ((Zc xs).length) (lm (Zc xs)))) (n2:Ze Yir 125 [.sl ys.length (lm ys)] (.fresh 1 ((Zc ys).length) (lm (Zc ys)))) (n3:Ze Yir 138 [.sl ((Zc xs).length) (lm (Zc xs)), .sl ((Zc ys).length) (lm (Zc ys))] (.fresh 1 zs.length (lm zs))) (n4:Ze Yir 106 [.bool na, .sl zs.length (lm zs)] (Us v)):Ze Yir 104 [.agg [.bool na, .sl xs.length (lm xs)], .agg [.bool nb, .sl ys.length (lm ys)]] (Zl v):=Ze.go (fn:=Te) Qf rfl 400 rfl [.r (.fresh 1 ((Zc xs).length) (lm (Zc xs))), .r (.fresh 1 ((Zc ys).length) (lm (Zc ys))), .b true, .r (.fresh 1 zs.length (lm zs)), .r (Us v)] (ac n1 (ac n2 (ac c1 (ac n3 (ac n4 a0)))))
theorem Zg3 (na nb:Bool) (xs ys zs:List Int) (v c:Int) (c1:(na==nb)=false) (c2:(decide (c≥0))=true) (n1:Ze Yir 125 [.sl xs.length (lm xs)] (.fresh 1 ((Zc xs).length) (lm (Zc xs)))) (n2:Ze Yir 125 [.sl ys.length (lm ys)] (.fresh 1 ((Zc ys).length) (lm (Zc ys)))) (n3:Ze Yir 139 [.sl ((Zc xs).length) (lm (Zc xs)), .sl ((Zc ys).length) (lm (Zc ys))] (.int .i64 c)) (n4:Ze Yir 140 [.sl ((Zc xs).length) (lm (Zc xs)), .sl ((Zc ys).length) (lm (Zc ys))] (.fresh 1 zs.length (lm zs))) (n5:Ze Yir 106 [.bool na, .sl zs.length (lm zs)] (Us v)):Ze Yir 104 [.agg [.bool na, .sl xs.length (lm xs)], .agg [.bool nb, .sl ys.length (lm ys)]] (Zl v):=Ze.go (fn:=Te) Qf rfl 400 rfl [.r (.fresh 1 ((Zc xs).length) (lm (Zc xs))), .r (.fresh 1 ((Zc ys).length) (lm (Zc ys))), .b false, .r (.int .i64 c), .b true, .r (.fresh 1 zs.length (lm zs)), .r (Us v)] (ac n1 (ac n2 (ac c1 (ac n3 (ac c2 (ac n4 (ac n5 a0)))))))
theorem Zg2 (na nb:Bool) (xs ys zs:List Int) (v c:Int) (c1:(na==nb)=false) (c2:(decide (c≥0))=false) (n1:Ze Yir 125 [.sl xs.length (lm xs)] (.fresh 1 ((Zc xs).length) (lm (Zc xs)))) (n2:Ze Yir 125 [.sl ys.length (lm ys)] (.fresh 1 ((Zc ys).length) (lm (Zc ys)))) (n3:Ze Yir 139 [.sl ((Zc xs).length) (lm (Zc xs)), .sl ((Zc ys).length) (lm (Zc ys))] (.int .i64 c)) (n4:Ze Yir 140 [.sl ((Zc ys).length) (lm (Zc ys)), .sl ((Zc xs).length) (lm (Zc xs))] (.fresh 1 zs.length (lm zs))) (n5:Ze Yir 106 [.bool nb, .sl zs.length (lm zs)] (Us v)):Ze Yir 104 [.agg [.bool na, .sl xs.length (lm xs)], .agg [.bool nb, .sl ys.length (lm ys)]] (Zl v):=Ze.go (fn:=Te) Qf rfl 400 rfl [.r (.fresh 1 ((Zc xs).length) (lm (Zc xs))), .r (.fresh 1 ((Zc ys).length) (lm (Zc ys))), .b false, .r (.int .i64 c), .b false, .r (.fresh 1 zs.length (lm zs)), .r (Us v)] (ac n1 (ac n2 (ac c1 (ac n3 (ac c2 (ac n4 (ac n5 a0)))))))
theorem Zst (na nb:Bool) (xs ys:List Int) (v w:Int) (n1:Ze Yir 117 [.agg [.bool nb, .sl ys.length (lm ys)]] (Zl w)) (n2:Ze Yir 104 [.agg [.bool na, .sl xs.length (lm xs)],Zl w] (Zl v)):Ze Yir 118 [.agg [.bool na, .sl xs.length (lm xs)], .agg [.bool nb, .sl ys.length (lm ys)]] (Zl v):=Ze.go (fn:=Zid) Qf rfl 400 rfl [.r (Zl w), .r (Zl v)] (ac n1 (ac n2 a0))
theorem Yrun79 (neg:Bool) (xs:List Int) (n1:Ze Yir 125 [.sl xs.length (lm xs)] (.fresh 1 ((Zc xs).length) (lm (Zc xs)))):Ze Yir 79 [.agg [.bool neg, .sl xs.length (lm xs)]] (.bool (decide ((((Zc xs).length:Nat):Int)>256))):=Ze.go (fn:=Yi79) Qf rfl 400 rfl [.r (.fresh 1 ((Zc xs).length) (lm (Zc xs)))] (ac n1 a0)
theorem Pz (neg:Bool) (xs:List Int):rv neg (Zc xs)=rv neg xs:=by unfold rv;rw [J3]
theorem D5 {xs:List Int} (h:U32 xs):U32 (Zc xs):=(Xr h).1
theorem rv_mul (na nb:Bool) (xs ys zs:List Int) (h:Zj zs=Zj xs*Zj ys):rv (!(na==nb)) zs=rv na xs*rv nb ys:=by
 unfold rv
 rw[h]
 generalize Zj xs=X
 generalize Zj ys=Y
 cases na <;> cases nb <;> simp <;> grind
theorem Fh {na nb:Bool} {xs ys:List Int} (hx:U32 xs) (hy:U32 ys) (hN:xs.length+ys.length≤1048576):Ze Yir 105 [.agg [.bool na, .sl xs.length (lm xs)], .agg [.bool nb, .sl ys.length (lm ys)]] (Zl (rv na xs*rv nb ys)):=by
 have t1:=Qc xs
 have t2:=Qc ys
 obtain⟨zs,z1,z2,z3,z4⟩:=Zbt (D5 hx) (D5 hy) (by omega)
 have hk:=U0 (neg := !(na==nb)) z2 (by omega)
 rw[rv_mul na nb (Zc xs) (Zc ys) zs z3,Pz,Pz] at hk
 exact Zl6 na nb xs ys zs _ (Xe (by omega)) (Xe (by omega)) z4 hk
theorem Mw {na nb:Bool} {xs ys:List Int} (hx:U32 xs) (hy:U32 ys) (h1:xs.length<1048576) (h2:ys.length<1048576):Ze Yir 104 [.agg [.bool na, .sl xs.length (lm xs)], .agg [.bool nb, .sl ys.length (lm ys)]] (Zl (rv na xs+rv nb ys)):=by
 have t1:=Qc xs
 have t2:=Qc ys
 have c1:=Xr hx
 have c2:=Xr hy
 have m1:=Xe (xs:=xs) (by omega)
 have m2:=Xe (xs:=ys) (by omega)
 have hcmp:=F1 c1 c2 (by omega)
 by_cases hn:na=nb
 ·subst hn
  obtain⟨zs,z1,z2,z3,z4⟩:=Zca c1.1 c2.1 (by omega) (by omega)
  have hk:=U0 (neg:=na) z1 (by omega)
  have e:rv na zs=rv na xs+rv na ys:=by
   unfold rv;rw[z2,J3,J3];cases na <;> simp;omega
  rw[e] at hk
  exact Zg4 na na xs ys zs _ (by simp) m1 m2 z4 hk
 ·have hb:nb = !na:=by cases na <;> cases nb <;> simp at hn ⊢
  by_cases hc:Uu (Zj (Zc xs)) (Zj (Zc ys))≥0
  ·have hle:Zj (Zc ys)≤Zj (Zc xs):=by unfold Uu at hc;split at hc <;> (try split at hc) <;> omega
   have hlen:(Zc ys).length≤(Zc xs).length:=K2 c2 (Int.lt_of_le_of_lt hle (Xd c1.1))
   obtain⟨zs,z1,z2,z3,z4⟩:=Ej c1.1 c2.1 hlen hle (by omega)
   have hk:=U0 (neg:=na) z1 (by omega)
   have e:rv na zs=rv na xs+rv nb ys:=by
    unfold rv;rw[z2,J3,J3,hb];cases na <;> simp <;> omega
   rw[e] at hk
   exact Zg3 na nb xs ys zs _ _ (by rw[hb];cases na <;> rfl) (by simpa using hc) m1 m2 hcmp z4 hk
  ·have hle:Zj (Zc xs)≤Zj (Zc ys):=by unfold Uu at hc;split at hc <;> (try split at hc) <;> omega
   have hlen:(Zc xs).length≤(Zc ys).length:=K2 c1 (Int.lt_of_le_of_lt hle (Xd c2.1))
   obtain⟨zs,z1,z2,z3,z4⟩:=Ej c2.1 c1.1 hlen hle (by omega)
   have hk:=U0 (neg:=nb) z1 (by omega)
   have e:rv nb zs=rv na xs+rv nb ys:=by
    unfold rv;rw[z2,J3,J3,hb];cases na <;> simp <;> omega
   rw[e] at hk
   exact Zg2 na nb xs ys zs _ _ (by rw[hb];cases na <;> rfl) (by simpa using hc) m1 m2 hcmp z4 hk
theorem En {na nb:Bool} {xs ys:List Int} (hx:U32 xs) (hy:U32 ys) (h1:xs.length<1048576) (h2:ys.length<1048576):Ze Yir 118 [.agg [.bool na, .sl xs.length (lm xs)], .agg [.bool nb, .sl ys.length (lm ys)]] (Zl (rv na xs-rv nb ys)):=by
 have hn:=Nt (neg:=nb) hy (by omega)
 have hl:(Zb (-(rv nb ys)).natAbs).length<1048576:=by rw[Int.natAbs_neg];exact Nat.lt_of_le_of_lt (Ue hy) h2
 have h:=Mw (na:=na) (nb:=decide (-(rv nb ys)<0)) hx (Qx (-(rv nb ys)).natAbs) h1 hl
 rw[V7] at h
 exact Zst na nb xs ys _ _ hn h
theorem Eo {neg:Bool} {xs:List Int} (hN:xs.length≤1048576):Ze Yir 79 [.agg [.bool neg, .sl xs.length (lm xs)]] (.bool (decide (256<(Zc xs).length))):=by
 have h:=Yrun79 neg xs (Xe hN)
 have e:decide ((((Zc xs).length:Nat):Int)>256)=decide (256<(Zc xs).length):=by rw[decide_eq_decide];omega
 rw[e] at h
 exact h
def TBD:Jx:=TBC
theorem X9:Q1 Yir TBD:=Qf
end Go.Proofs.Ythnnfemologhfaa

namespace Go.Proofs.Ythnnfemologhfaa
open Go.IntKind (i64 u64 u32)
open Go.Ai
theorem or64 {q c:Int} {s:Nat} (hq:0≤q) (hs:q*2^s<18446744073709551616) (hs':s≤64) (hc:0≤c∧c<2^s) :
  u64.wrap ((BitVec.ofInt (IntKind.bits .u64) (q*2^s) ||| BitVec.ofInt (IntKind.bits .u64) c).toNat)=q*2^s+c:=by
 obtain⟨a,rfl⟩:∃ a:Nat,q=a:=⟨q.toNat,by omega⟩
 obtain⟨b,rfl⟩:∃ b:Nat,c=b:=⟨c.toNat,by omega⟩
 have e1:(a:Int)*2^s=((a*2^s:Nat):Int):=by rw[Int.natCast_mul,Int.natCast_pow];rfl
 have hb:b<2^s:=by
  have:(b:Int)<((2^s:Nat):Int):=by rw[Int.natCast_pow];exact hc.2
  omega
 have h64:2^s≤2^64:=Nat.pow_le_pow_right (by decide) hs'
 have e64:2^64=18446744073709551616:=by decide
 rw[e1] at hs ⊢
 show u64.wrap ((BitVec.ofInt 64 ((a*2^s:Nat):Int) ||| BitVec.ofInt 64 (b:Int)).toNat:Int)=_
 rw[BitVec.toNat_or,BitVec.ofInt_natCast,BitVec.ofInt_natCast,BitVec.toNat_ofNat,BitVec.toNat_ofNat,Nat.mod_eq_of_lt (by omega),Nat.mod_eq_of_lt (by omega),Nat.mul_comm a,← Nat.two_pow_add_eq_or_of_lt hb,Nat.mul_comm (2^s) a,Qw]
 have hsum:a*2^s+b<18446744073709551616:=by
  have hd:a*2^s+2^s≤2^64:=by
   have hk:2^64=2^(64-s)*2^s:=by rw[← Nat.pow_add];congr 1;omega
   have h1:a<2^(64-s):=by
    rcases Nat.lt_or_ge a (2^(64-s)) with g | g
    ·exact g
    ·have:=Nat.mul_le_mul_right (2^s) g
     omega
   have h2:=Nat.mul_le_mul_right (2^s) (show a+1≤2^(64-s) by omega)
   rw[Nat.add_mul,Nat.one_mul] at h2
   omega
  omega
 omega
theorem Jb (n:Nat):(0:Int)<2^n:=Int.pow_pos (by decide)
theorem Vt {a b:Nat} (h:a≤b):(2:Int)^a≤2^b:=by
 have h1:2^a≤2^b:=Nat.pow_le_pow_right (by decide) h
 have e:∀ n:Nat,(2:Int)^n=((2^n:Nat):Int):=fun n=>by rw[Int.natCast_pow];rfl
 rw[e,e]
 omega
theorem Gl (n:Nat):(4294967296:Int)^n=2^(32*n):=by
 rw[Int.pow_mul];rfl
theorem Fn (n:Nat):(2:Int)^n=4294967296^(n / 32)*2^(n % 32):=by
 rw[Gl,← Int.pow_add,Nat.div_add_mod]
end Go.Proofs.Ythnnfemologhfaa

namespace Go.Proofs.Ythnnfemologhfaa
open Go.IntKind (i64 u64 u32)
open Go.Ai
set_option maxRecDepth 100000
def L8 (neg:Bool) (xs:List Int) (n:Nat) (cs:List AV) (c:Int) (s:Int) (ms:List Int) (i:Int):Zk:=(dds 2 (.box [.bool neg, .sl xs.length (lm xs)]::(dds 1 (.box [.bool false, .sl 0 []]::(.own 1 n cs::(.val (.int .u32 c)::(.val (.int .u64 s)::(.val (.sl ms.length (lm ms))::(.val (.int .i64 i)::(dds 41 []))))))))))
theorem Zu0 (neg:Bool) (xs:List Int) (n:Nat) (cs:List AV) (c:Int) (s:Int) (ms:List Int) (i:Int)  (c1:(decide (i<(ms.length:Int)))=true) (n1:0≤i∧i<(ms.length:Int)) (n2:¬ s<0) (n3:n+1≤1048576):Za Yir Ziv (L8 neg xs n cs c s ms i) .norm (L8 neg xs (n+1) (cs++([.int .u32 (u32.wrap (u64.wrap ((BitVec.ofInt (IntKind.bits .u64) (u64.wrap ((u64.wrap (ms.getD (Int.toNat i) 0))*2^(min (Int.toNat s) (IntKind.bits .u64)))) ||| BitVec.ofInt (IntKind.bits .u64) (u64.wrap c)).toNat)))]:List AV)) (u32.wrap (Int.fdiv (u64.wrap ((BitVec.ofInt (IntKind.bits .u64) (u64.wrap ((u64.wrap (ms.getD (Int.toNat i) 0))*2^(min (Int.toNat s) (IntKind.bits .u64)))) ||| BitVec.ofInt (IntKind.bits .u64) (u64.wrap c)).toNat)) (2^(min (Int.toNat 32) (IntKind.bits .u64))))) s ms (i64.wrap (i+1))):=(Za.go X9 400 [.b true, .v (.int .u32 (ms.getD (Int.toNat i) 0))] [2,4,5,6,7,8,9] (ac c1 (ac n1 (ac (Z2 n1) (ac n2 (ac (show List.length ([.int .u32 (u32.wrap (u64.wrap ((BitVec.ofInt (IntKind.bits .u64) (u64.wrap ((u64.wrap (ms.getD (Int.toNat i) 0))*2^(min (Int.toNat s) (IntKind.bits .u64)))) ||| BitVec.ofInt (IntKind.bits .u64) (u64.wrap c)).toNat)))]:List AV)=1*1 from rfl) (ac n3 (ac (show ¬ (32:Int)<0 from (by decide)) a0))))))))
theorem Zuz (neg:Bool) (xs:List Int) (n:Nat) (cs:List AV) (c:Int) (s:Int) (ms:List Int) (i:Int)  (c1:(decide (i<(ms.length:Int)))=false):Za Yir Ziv (L8 neg xs n cs c s ms i) (.exit 0) (L8 neg xs n cs c s ms i):=(Za.go X9 400 [.b false] [2,4,5,6,7,8,9] (ac c1 a0))
theorem Zsp (neg:Bool) (xs:List Int) (sh:Int) (n:Nat) (cs:List AV) (c i v:Int) (n1:0≤(i64.wrap (Int.tdiv sh 32))∧(i64.wrap (Int.tdiv sh 32))≤1048576) (n2:Ze Yir 125 [.sl xs.length (lm xs)] (.fresh 1 ((Zc xs).length) (lm (Zc xs)))) (hl3:Za Yir (.loop Ziv) (L8 neg xs (Int.toNat (i64.wrap (Int.tdiv sh 32))) (Q7 [.int .u32 0] (Int.toNat (i64.wrap (Int.tdiv sh 32)))) 0 (u64.wrap (Int.tmod sh 32)) (Zc xs) 0) (.exit 0) (L8 neg xs n cs c (u64.wrap (Int.tmod sh 32)) (Zc xs) i)) (n4:n+1≤1048576) (n5:Ze Yir 106 [.bool neg, .sl (n+1) (cs++([.int .u32 c]:List AV))] (Us v)):Ze Yir 126 [.agg [.bool neg, .sl xs.length (lm xs)], .int .i64 sh] (Us v):=Ze.of_bodyW (fn:=Zia) (s:=(dds 4 (.bxl 50::(dds 45 (.agn (decide (v<0)) 1 ((Zb (Int.natAbs v)).length) (lm (Zb (Int.natAbs v)))::[]))))) (ex := .ret) rfl rfl (Za.seq (Za.go (t:=(.val (.agg [.bool neg, .sl xs.length (lm xs)])::(vi sh::(.box [.bool neg, .sl xs.length (lm xs)]::(dds 1 (.box [.bool false, .sl 0 []]::(dds 46 []))))))) X9 400 [] [0,1,2,4] a0) (Za.seq (Za.go (t:=(.val (.agg [.bool neg, .sl xs.length (lm xs)])::(vi sh::(.box [.bool neg, .sl xs.length (lm xs)]::(dds 1 (.box [.bool false, .sl 0 []]::(.own 1 (Int.toNat (i64.wrap (Int.tdiv sh 32))) (Q7 [.int .u32 0] (Int.toNat (i64.wrap (Int.tdiv sh 32))))::(dds 45 [])))))))) X9 400 [] [0,1,2,4,5] (ac (show ¬ (32:Int)=0 from (by decide)) (ac n1 a0))) (Za.seq (Za.go (t:=(.val (.agg [.bool neg, .sl xs.length (lm xs)])::(vi sh::(.box [.bool neg, .sl xs.length (lm xs)]::(dds 1 (.box [.bool false, .sl 0 []]::(.own 1 (Int.toNat (i64.wrap (Int.tdiv sh 32))) (Q7 [.int .u32 0] (Int.toNat (i64.wrap (Int.tdiv sh 32))))::(.val (.int .u32 0)::(dds 44 []))))))))) X9 400 [] [0,1,2,4,5,6] a0) (Za.seq (Za.go (t:=(.val (.agg [.bool neg, .sl xs.length (lm xs)])::(vi sh::(.box [.bool neg, .sl xs.length (lm xs)]::(dds 1 (.box [.bool false, .sl 0 []]::(.own 1 (Int.toNat (i64.wrap (Int.tdiv sh 32))) (Q7 [.int .u32 0] (Int.toNat (i64.wrap (Int.tdiv sh 32))))::(.val (.int .u32 0)::(.val (.int .u64 (u64.wrap (Int.tmod sh 32)))::(dds 43 [])))))))))) X9 400 [] [0,1,2,4,5,6,7] (ac (show ¬ (32:Int)=0 from (by decide)) a0)) (Za.seq (Za.go (t:=(.val (.agg [.bool neg, .sl xs.length (lm xs)])::(vi sh::(.box [.bool neg, .sl xs.length (lm xs)]::(dds 1 (.box [.bool false, .sl 0 []]::(.own 1 (Int.toNat (i64.wrap (Int.tdiv sh 32))) (Q7 [.int .u32 0] (Int.toNat (i64.wrap (Int.tdiv sh 32))))::(.val (.int .u32 0)::(.val (.int .u64 (u64.wrap (Int.tmod sh 32)))::(.val (.sl ((Zc xs).length) (lm (Zc xs)))::(dds 42 []))))))))))) X9 400 [.r (.fresh 1 ((Zc xs).length) (lm (Zc xs)))] [0,1,2,4,5,6,7,8] (ac n2 a0)) (Za.seq (Za.seq (Za.go X9 400 [] [2,4,5,6,7,8,9] a0) (Za.block hl3)) (Za.go X9 400 [.r (Us v)] [4,50] (ac (show List.length ([.int .u32 c]:List AV)=1*1 from rfl) (ac n4 (ac n5 a0)))))))))) (by intro i e;cases e) rfl
theorem Zba {x c:Int} {s:Nat} (hx:0≤x∧x<4294967296) (hs:s<32) (hc:0≤c∧c<2^s) :
  u64.wrap ((BitVec.ofInt (IntKind.bits .u64) (u64.wrap ((u64.wrap x)*2^(min (Int.toNat (s:Int)) (IntKind.bits .u64)))) ||| BitVec.ofInt (IntKind.bits .u64) (u64.wrap c)).toNat)=x*2^s+c
  ∧ 0≤(x*2^s+c) / 4294967296∧(x*2^s+c) / 4294967296<2^s∧(2:Int)^s≤2147483648:=by
 have hp:=Jb s
 have hp2:(2:Int)^s≤2147483648:=Vt (show s≤31 by omega)
 have hm:x*2^s≤4294967295*2^s:=Int.mul_le_mul_of_nonneg_right (by omega) (by omega)
 have hm0:0≤x*2^s:=Int.mul_nonneg hx.1 (by omega)
 have hmin:min (Int.toNat (s:Int)) (IntKind.bits .u64)=s:=by
  rw[Int.toNat_natCast]
  show min s 64=s
  omega
 have w1:u64.wrap x=x:=by rw[Qw];omega
 have w2:u64.wrap (x*2^s)=x*2^s:=by rw[Qw];omega
 have w3:u64.wrap c=c:=by rw[Qw];omega
 refine⟨?_,by omega,by omega,hp2⟩
 rw[hmin,w1,w2,w3]
 exact or64 hx.1 (by omega) (by omega) hc
theorem Zmm {neg:Bool} {xs ms pre:List Int} (hu:U32 ms) {s:Nat} (hs:s<32) (hN:pre.length+ms.length≤1048576):∀ (r i:Nat) (acc:List Int) (c:Int),i+r=ms.length→acc.length=i→U32 acc→0≤c∧c<2^s →
  ∃ (zs:List Int) (c':Int),U32 zs∧zs.length=ms.length∧(0≤c'∧c'<2^s)∧Zj zs+4294967296^ms.length*c'=Zj acc+4294967296^i*(c+2^s*Zj (ms.drop i)) ∧
   Za Yir (.loop Ziv) (L8 neg xs (pre.length+i) (lm (pre++acc)) c (s:Nat) ms (i:Nat)) (.exit 0) (L8 neg xs (pre.length+ms.length) (lm (pre++zs)) c' (s:Nat) ms (ms.length:Nat)):=by
 intro r
 induction r with
 | zero =>
  intro i acc c hi hl hacc hc
  have e1:Zj (ms.drop i)=0:=J0 (by omega)
  have hi':i=ms.length:=by omega
  refine⟨acc,c,hacc,by omega,hc,by rw[e1,hi'];simp,?_⟩
  rw[hi']
  exact Za.loop_out (Zuz neg xs _ _ c (s:Nat) ms (ms.length:Nat) (by simp)) (by intro e;cases e)
 | succ r ih =>
  intro i acc c hi hl hacc hc
  have bm:=Zu hu i
  obtain⟨w1,w2,w3,w4⟩:=Zba bm hs hc
  have ei:i64.wrap ((i:Int)+1)=((i+1:Nat):Int):=by rw[w64 (by omega) (by omega)];omega
  have k:=Zu0 neg xs (pre.length+i) (lm (pre++acc)) c (s:Nat) ms (i:Nat) (by simp;omega) (by omega) (by omega) (by omega)
  have wd:u32.wrap ((ms.getD i 0*2^s+c) / 4294967296)=(ms.getD i 0*2^s+c) / 4294967296:=by rw[Wt];omega
  simp only[Int.toNat_natCast i,w1,sr32,wd,Wt (ms.getD i 0*2^s+c),ei,Wy,List.append_assoc] at k
  obtain⟨zs,c',q1,q2,q3,q4,q5⟩:=ih (i+1) (acc++[(ms.getD i 0*2^s+c) % 4294967296]) ((ms.getD i 0*2^s+c) / 4294967296) (by omega) (by simp[hl]) (Gf hacc (by omega)) ⟨w2,w3⟩
  refine⟨zs,c',q1,q2,q3,?_,Za.loop k q5⟩
  rw[q4,Kn,hl,Qy ms i,Int.pow_succ]
  have hd:=Int.emod_add_mul_ediv (ms.getD i 0*2^s+c) 4294967296
  generalize (ms.getD i 0*2^s+c) % 4294967296=m at *
  generalize (ms.getD i 0*2^s+c) / 4294967296=d at *
  generalize (4294967296:Int)^i=p at *
  generalize Zj (ms.drop (i+1))=X at *
  generalize (2:Int)^s=T at *
  generalize ms.getD i 0=y at *
  have:c+T*(y+4294967296*X)=m+4294967296*(d+T*X):=by
   have:c+T*(y+4294967296*X)=(y*T+c)+4294967296*(T*X):=by grind
   omega
  rw[this]
  grind
theorem T1 {neg:Bool} {xs ys:List Int} {t:Int} (h:Zj ys=t*Zj xs):rv neg ys=rv neg xs*t:=by
 unfold rv
 rw[h]
 generalize Zj xs=X
 cases neg <;> simp <;> grind
theorem Ns {neg:Bool} {xs:List Int} (hu:U32 xs) (n:Nat) (hN:n / 32+xs.length+1≤1048576):Ze Yir 126 [.agg [.bool neg, .sl xs.length (lm xs)], .int .i64 (n:Nat)] (Us (rv neg xs*2^n)):=by
 have t1:=Qc xs
 have e1:i64.wrap (Int.tdiv (n:Int) 32)=((n / 32:Nat):Int):=by
  rw[Int.tdiv_eq_ediv_of_nonneg (by omega),w64 (by omega) (by omega)];omega
 have e2:u64.wrap (Int.tmod (n:Int) 32)=((n % 32:Nat):Int):=by
  rw[Int.tmod_eq_emod_of_nonneg (by omega),Qw];omega
 obtain⟨zs,c',q1,q2,q3,q4,q5⟩:=Zmm (neg:=neg) (xs:=xs) (pre:=List.replicate (n / 32) 0) (D5 hu) (s:=n % 32) (by omega) (by simp;omega) (Zc xs).length 0 [] 0 (by omega) rfl (fun x hx=>by cases hx) ⟨by omega,Jb _⟩
 have w4:(2:Int)^(n % 32)≤2147483648:=Vt (show n % 32≤31 by omega)
 simp only[List.length_replicate,List.append_nil,Nat.add_zero,Zj,Int.pow_zero,List.drop_zero,Int.one_mul,Int.zero_add] at q4 q5
 have huz:U32 (List.replicate (n / 32) 0++zs++[c']):=by
  refine Gf ?_ (by omega)
  intro x hx
  rcases List.mem_append.1 hx with g | g
  ·exact Xk _ x g
  ·exact q1 x g
 have hlen:(List.replicate (n / 32) 0++zs++[c']).length=n / 32+(Zc xs).length+1:=by simp[q2];omega
 have hk:=U0 (neg:=neg) huz (by omega)
 have hval:Zj (List.replicate (n / 32) 0++zs++[c'])=2^n*Zj xs:=by
  rw[Kn,Ub,Xc,Fn n,List.length_append,List.length_replicate,Int.pow_add,q2]
  rw[J3] at q4
  generalize (4294967296:Int)^(n / 32)=p at *
  generalize (4294967296:Int)^(Zc xs).length=q at *
  generalize (2:Int)^(n % 32)=T at *
  generalize Zj xs=X at *
  generalize Zj zs=Z at *
  grind
 rw[T1 hval,hlen] at hk
 refine Zsp neg xs (n:Nat) (n / 32+(Zc xs).length) (lm (List.replicate (n / 32) 0++zs)) c' ((Zc xs).length:Nat) _ (by rw[e1];omega) (Xe (by omega)) (by rw[e1,e2,Int.toNat_natCast,Xx];exact q5) (by omega) (by rw[Wy];exact hk)
def TBE:Jx:=TBD
theorem Zf:Q1 Yir TBE:=X9
end Go.Proofs.Ythnnfemologhfaa

namespace Go.Proofs.Ythnnfemologhfaa
open Go.IntKind (i64 u64 u32)
open Go.Ai
set_option maxRecDepth 100000
def TQ0:Jx:=[]
theorem Qn:Q1 Yir TQ0:=Q1.nil _
def D2 (neg:Bool) (N:Nat) (cs:List AV) (n:Int):Zk:=(dds 1 (.box [.bool neg, .sl N cs]::(.val (.bool false)::(.own 1 0 []::(.val (.int .i64 n)::(dds 26 []))))))
theorem Zu8 (neg:Bool) (N:Nat) (cs:List AV) (n:Int) (x:Int) (c1:(decide (n>0))=true) (c2:(x==0)=true) (n1:0≤(i64.wrap (n-1))∧(i64.wrap (n-1))<(N:Int)) (n2:Z3 (List.drop (Int.toNat (i64.wrap (n-1))*1) cs) 0 1 true=some (.int .u32 x)):Za Yir Tj (D2 neg N cs n) .norm (D2 neg N cs (i64.wrap (n-1))):=Za.script (ps:=[(decide (n>0))=true,0≤(i64.wrap (n-1))∧(i64.wrap (n-1))<(N:Int),Z3 (List.drop (Int.toNat (i64.wrap (n-1))*1) cs) 0 1 true=some (.int .u32 x),(x==0)=true]) Qn 300 [.b true, .v (.int .u32 x), .b true] [1,2,3,4] (by kernel_rfl) ⟨c1,n1,n2,c2,trivial⟩
theorem Zu7 (neg:Bool) (N:Nat) (cs:List AV) (n:Int) (x:Int) (c1:(decide (n>0))=true) (c2:(x==0)=false) (n1:0≤(i64.wrap (n-1))∧(i64.wrap (n-1))<(N:Int)) (n2:Z3 (List.drop (Int.toNat (i64.wrap (n-1))*1) cs) 0 1 true=some (.int .u32 x)):Za Yir Tj (D2 neg N cs n) (.exit 0) (D2 neg N cs n):=Za.script (ps:=[(decide (n>0))=true,0≤(i64.wrap (n-1))∧(i64.wrap (n-1))<(N:Int),Z3 (List.drop (Int.toNat (i64.wrap (n-1))*1) cs) 0 1 true=some (.int .u32 x),(x==0)=false]) Qn 300 [.b true, .v (.int .u32 x), .b false] [1,2,3,4] (by kernel_rfl) ⟨c1,n1,n2,c2,trivial⟩
theorem Zu6 (neg:Bool) (N:Nat) (cs:List AV) (n:Int) (c1:(decide (n>0))=false):Za Yir Tj (D2 neg N cs n) (.exit 0) (D2 neg N cs n):=Za.script (ps:=[(decide (n>0))=false,false=false]) Qn 300 [.b false, .b false] [1,2,3,4] (by kernel_rfl) ⟨c1,rfl,trivial⟩
theorem Za2 (neg:Bool) (xs:List Int) (hN:xs.length≤1048576):∀ m,m≤xs.length→Za Yir (.loop Tj) (D2 neg xs.length (lm xs) (m:Int)) (.exit 0) (D2 neg xs.length (lm xs) ((Z0 xs m:Nat):Int)):=by
 intro m
 induction m with
 | zero =>
  intro _
  exact Za.loop_out (Zu6 neg xs.length (lm xs) ((0:Nat):Int) (by simp)) (by intro e;cases e)
 | succ m ih =>
  intro hm
  have e1:i64.wrap (((m+1:Nat):Int)-1)=(m:Int):=by rw[w64 (by omega) (by omega)];omega
  have hx:=J5 (xs:=xs) (i:=m) (by omega)
  simp only[Z0]
  by_cases h0:xs.getD m 0=0
  ·rw[if_pos h0]
   have h1:=Zu8 neg xs.length (lm xs) ((m+1:Nat):Int) (xs.getD m 0) (by simp) (by rw[h0];rfl) (by rw[e1];omega) (by rw[e1,Int.toNat_natCast];exact hx)
   rw[e1] at h1
   exact Za.loop h1 (ih (by omega))
  ·rw[if_neg h0]
   exact Za.loop_out (Zu7 neg xs.length (lm xs) ((m+1:Nat):Int) (xs.getD m 0) (by simp) (by simpa using h0) (by rw[e1];omega) (by rw[e1,Int.toNat_natCast];exact hx)) (by intro e;cases e)
theorem Pb (xs:List Int) (hl:Za Yir (.loop Tj) (D2 true xs.length (lm xs) (xs.length:Int)) (.exit 0) (D2 true xs.length (lm xs) ((Z0 xs xs.length:Nat):Int))) (hsc:0≤(Int.toNat ((Z0 xs xs.length:Nat):Int))∧(Int.toNat ((Z0 xs xs.length:Nat):Int))≤xs.length∧xs.length≤xs.length∧(false=true→true=true)):Ze Yir 122 [.agg [.bool true, .sl xs.length (lm xs)]] (.tup [.bool (decide (((Z0 xs xs.length:Nat):Int)>0)), .sl ((Int.toNat ((Z0 xs xs.length:Nat):Int))-0) (List.take (((Int.toNat ((Z0 xs xs.length:Nat):Int))-0)*1) (List.drop (0*1) (lm xs)))]):=Ze.of_bodyW (fn:=Zc4) (s:=(dds 1 (.box [.bool true, .sl xs.length (lm xs)]::(.val (.bool (decide (((Z0 xs xs.length:Nat):Int)>0)))::(.val (.sl ((Int.toNat ((Z0 xs xs.length:Nat):Int))-0) (List.take (((Int.toNat ((Z0 xs xs.length:Nat):Int))-0)*1) (List.drop (0*1) (lm xs))))::(.val (.int .i64 ((Z0 xs xs.length:Nat):Int))::(dds 16 (.ptr 1 0::(.val (.bool true)::(.val (.bool true)::(.val (.int .i64 ((Z0 xs xs.length:Nat):Int))::(.val (.bool (decide (((Z0 xs xs.length:Nat):Int)>0)))::(.val (.bool (decide (((Z0 xs xs.length:Nat):Int)>0)))::(.ptr 1 1::(.val (.sl xs.length (lm xs))::(.val (.int .i64 ((Z0 xs xs.length:Nat):Int))::(.val (.sl ((Int.toNat ((Z0 xs xs.length:Nat):Int))-0) (List.take (((Int.toNat ((Z0 xs xs.length:Nat):Int))-0)*1) (List.drop (0*1) (lm xs))))::[]))))))))))))))))) (ex := .ret) rfl rfl (Za.seq (Za.script (t:=(.val (.agg [.bool true, .sl xs.length (lm xs)])::(.box [.bool true, .sl xs.length (lm xs)]::(.val (.bool false)::(.own 1 0 []::(dds 27 [])))))) (ps:=[]) Qn 300 [] [0,1,2,3] (by kernel_rfl) trivial) (Za.seq (Za.script (t:=(dds 1 (.box [.bool true, .sl xs.length (lm xs)]::(.val (.bool false)::(.own 1 0 []::(vi (xs.length:Int)::(dds 26 []))))))) (ps:=[]) Qn 300 [] [1,2,3,4] (by kernel_rfl) trivial) (Za.seq (Za.block hl) (Za.script (t:=(dds 1 (.box [.bool true, .sl xs.length (lm xs)]::(.val (.bool (decide (((Z0 xs xs.length:Nat):Int)>0)))::(.val (.sl ((Int.toNat ((Z0 xs xs.length:Nat):Int))-0) (List.take (((Int.toNat ((Z0 xs xs.length:Nat):Int))-0)*1) (List.drop (0*1) (lm xs))))::(vi ((Z0 xs xs.length:Nat):Int)::(dds 16 (.ptr 1 0::(.val (.bool true)::(.val (.bool true)::(vi ((Z0 xs xs.length:Nat):Int)::(.val (.bool (decide (((Z0 xs xs.length:Nat):Int)>0)))::(.val (.bool (decide (((Z0 xs xs.length:Nat):Int)>0)))::(.ptr 1 1::(vl xs::(vi ((Z0 xs xs.length:Nat):Int)::(.val (.sl ((Int.toNat ((Z0 xs xs.length:Nat):Int))-0) (List.take (((Int.toNat ((Z0 xs xs.length:Nat):Int))-0)*1) (List.drop (0*1) (lm xs))))::[]))))))))))))))))) (ex := .ret) (ps:=[true=true,0≤((Z0 xs xs.length:Nat):Int),0≤(Int.toNat ((Z0 xs xs.length:Nat):Int))∧(Int.toNat ((Z0 xs xs.length:Nat):Int))≤xs.length∧xs.length≤xs.length∧(false=true→true=true)]) Qn 300 [.b true] [1,2,3,4,21,22,23,24,25,26,27,28,29,30] (by kernel_rfl) ⟨rfl,(Int.natCast_nonneg _),hsc,trivial⟩)))) (by intro i e;cases e) rfl
theorem Mi (xs:List Int) (hl:Za Yir (.loop Tj) (D2 false xs.length (lm xs) (xs.length:Int)) (.exit 0) (D2 false xs.length (lm xs) ((Z0 xs xs.length:Nat):Int))) (hsc:0≤(Int.toNat ((Z0 xs xs.length:Nat):Int))∧(Int.toNat ((Z0 xs xs.length:Nat):Int))≤xs.length∧xs.length≤xs.length∧(false=true→true=true)):Ze Yir 122 [.agg [.bool false, .sl xs.length (lm xs)]] (.tup [.bool false, .sl ((Int.toNat ((Z0 xs xs.length:Nat):Int))-0) (List.take (((Int.toNat ((Z0 xs xs.length:Nat):Int))-0)*1) (List.drop (0*1) (lm xs)))]):=Ze.of_bodyW (fn:=Zc4) (s:=(dds 1 (.box [.bool false, .sl xs.length (lm xs)]::(.val (.bool false)::(.val (.sl ((Int.toNat ((Z0 xs xs.length:Nat):Int))-0) (List.take (((Int.toNat ((Z0 xs xs.length:Nat):Int))-0)*1) (List.drop (0*1) (lm xs))))::(.val (.int .i64 ((Z0 xs xs.length:Nat):Int))::(dds 16 (.ptr 1 0::(.val (.bool false)::(.val (.bool false)::(.val (.undef)::(.val (.undef)::(.val (.bool false)::(.ptr 1 1::(.val (.sl xs.length (lm xs))::(.val (.int .i64 ((Z0 xs xs.length:Nat):Int))::(.val (.sl ((Int.toNat ((Z0 xs xs.length:Nat):Int))-0) (List.take (((Int.toNat ((Z0 xs xs.length:Nat):Int))-0)*1) (List.drop (0*1) (lm xs))))::[]))))))))))))))))) (ex := .ret) rfl rfl (Za.seq (Za.script (t:=(.val (.agg [.bool false, .sl xs.length (lm xs)])::(.box [.bool false, .sl xs.length (lm xs)]::(.val (.bool false)::(.own 1 0 []::(dds 27 [])))))) (ps:=[]) Qn 300 [] [0,1,2,3] (by kernel_rfl) trivial) (Za.seq (Za.script (t:=(dds 1 (.box [.bool false, .sl xs.length (lm xs)]::(.val (.bool false)::(.own 1 0 []::(vi (xs.length:Int)::(dds 26 []))))))) (ps:=[]) Qn 300 [] [1,2,3,4] (by kernel_rfl) trivial) (Za.seq (Za.block hl) (Za.script (t:=(dds 1 (.box [.bool false, .sl xs.length (lm xs)]::(.val (.bool false)::(.val (.sl ((Int.toNat ((Z0 xs xs.length:Nat):Int))-0) (List.take (((Int.toNat ((Z0 xs xs.length:Nat):Int))-0)*1) (List.drop (0*1) (lm xs))))::(vi ((Z0 xs xs.length:Nat):Int)::(dds 16 (.ptr 1 0::(.val (.bool false)::(.val (.bool false)::(.val (.undef)::(.val (.undef)::(.val (.bool false)::(.ptr 1 1::(vl xs::(vi ((Z0 xs xs.length:Nat):Int)::(.val (.sl ((Int.toNat ((Z0 xs xs.length:Nat):Int))-0) (List.take (((Int.toNat ((Z0 xs xs.length:Nat):Int))-0)*1) (List.drop (0*1) (lm xs))))::[]))))))))))))))))) (ex := .ret) (ps:=[false=false,0≤((Z0 xs xs.length:Nat):Int),0≤(Int.toNat ((Z0 xs xs.length:Nat):Int))∧(Int.toNat ((Z0 xs xs.length:Nat):Int))≤xs.length∧xs.length≤xs.length∧(false=true→true=true)]) Qn 300 [.b false] [1,2,3,4,21,22,23,24,25,26,27,28,29,30] (by kernel_rfl) ⟨rfl,(Int.natCast_nonneg _),hsc,trivial⟩)))) (by intro i e;cases e) rfl
theorem Zdh (xs:List Int):(Int.toNat ((Z0 xs xs.length:Nat):Int)-0)=(Zc xs).length∧(List.take ((Int.toNat ((Z0 xs xs.length:Nat):Int)-0)*1) (List.drop (0*1) (lm xs)))=lm (Zc xs)∧(0≤(Int.toNat ((Z0 xs xs.length:Nat):Int))∧(Int.toNat ((Z0 xs xs.length:Nat):Int))≤xs.length∧xs.length≤xs.length∧(false=true→true=true)):=by
 have hle:=Wv xs xs.length
 rw[Int.toNat_natCast]
 refine⟨by simp[Zc];omega,by simp[lm,Zc,List.map_take],by omega,hle,Nat.le_refl _,fun h=>by cases h⟩
theorem Jo {neg:Bool} {xs:List Int} (hu:U32 xs) (hN:xs.length≤1048576):Ze Yir 122 [.agg [.bool neg, .sl xs.length (lm xs)]]
  (.tup [.bool (decide (rv neg xs<0)), .sl (Zb (rv neg xs).natAbs).length (lm (Zb (rv neg xs).natAbs))]):=by
 obtain⟨e1,e2,e3⟩:=Zdh xs
 have ht:=D6 (neg:=neg) hu
 have hn:=Zqa (neg:=neg) hu
 have hlen:(Zc xs).length=Z0 xs xs.length:=by rw[← e1,Int.toNat_natCast];rfl
 cases neg with
 | true =>
  have h:=Pb xs (Za2 true xs hN xs.length (Nat.le_refl _)) e3
  rw[e2,e1,ht] at h
  have e4:decide (((Z0 xs xs.length:Nat):Int)>0)=decide (rv true xs<0):=by
   rw[← hn,Bool.true_and,← ht,hlen,decide_eq_decide];omega
  rw[e4] at h
  exact h
 | false =>
  have h:=Mi xs (Za2 false xs hN xs.length (Nat.le_refl _)) e3
  rw[e2,e1,ht] at h
  rw[Bool.false_and] at hn
  rw[← hn]
  exact h
def D1 (neg:Bool) (N:Nat) (cs:List AV) (n:Int):Zk:=(.val (.bool neg)::(.val (.sl N cs)::(dds 2 (.box [.bool false, .sl 0 []]::(.val (.int .i64 n)::(dds 23 []))))))
theorem Zuu (neg:Bool) (N:Nat) (cs:List AV) (n:Int) (x:Int) (c1:(decide (n>0))=true) (c2:(x==0)=true) (n1:0≤(i64.wrap (n-1))∧(i64.wrap (n-1))<(N:Int)) (n2:Z3 (List.drop (Int.toNat (i64.wrap (n-1))*1) cs) 0 1 true=some (.int .u32 x)):Za Yir Ti (D1 neg N cs n) .norm (D1 neg N cs (i64.wrap (n-1))):=Za.script (ps:=[(decide (n>0))=true,0≤(i64.wrap (n-1))∧(i64.wrap (n-1))<(N:Int),Z3 (List.drop (Int.toNat (i64.wrap (n-1))*1) cs) 0 1 true=some (.int .u32 x),(x==0)=true]) Qn 300 [.b true, .v (.int .u32 x), .b true] [0,1,4,5] (by kernel_rfl) ⟨c1,n1,n2,c2,trivial⟩
theorem Zut (neg:Bool) (N:Nat) (cs:List AV) (n:Int) (x:Int) (c1:(decide (n>0))=true) (c2:(x==0)=false) (n1:0≤(i64.wrap (n-1))∧(i64.wrap (n-1))<(N:Int)) (n2:Z3 (List.drop (Int.toNat (i64.wrap (n-1))*1) cs) 0 1 true=some (.int .u32 x)):Za Yir Ti (D1 neg N cs n) (.exit 0) (D1 neg N cs n):=Za.script (ps:=[(decide (n>0))=true,0≤(i64.wrap (n-1))∧(i64.wrap (n-1))<(N:Int),Z3 (List.drop (Int.toNat (i64.wrap (n-1))*1) cs) 0 1 true=some (.int .u32 x),(x==0)=false]) Qn 300 [.b true, .v (.int .u32 x), .b false] [0,1,4,5] (by kernel_rfl) ⟨c1,n1,n2,c2,trivial⟩
theorem Zus (neg:Bool) (N:Nat) (cs:List AV) (n:Int) (c1:(decide (n>0))=false):Za Yir Ti (D1 neg N cs n) (.exit 0) (D1 neg N cs n):=Za.script (ps:=[(decide (n>0))=false,false=false]) Qn 300 [.b false, .b false] [0,1,4,5] (by kernel_rfl) ⟨c1,rfl,trivial⟩
theorem Zmj (neg:Bool) (xs:List Int) (hN:xs.length≤1048576):∀ m,m≤xs.length→Za Yir (.loop Ti) (D1 neg xs.length (lm xs) (m:Int)) (.exit 0) (D1 neg xs.length (lm xs) ((Z0 xs m:Nat):Int)):=by
 intro m
 induction m with
 | zero =>
  intro _
  exact Za.loop_out (Zus neg xs.length (lm xs) ((0:Nat):Int) (by simp)) (by intro e;cases e)
 | succ m ih =>
  intro hm
  have e1:i64.wrap (((m+1:Nat):Int)-1)=(m:Int):=by rw[w64 (by omega) (by omega)];omega
  have hx:=J5 (xs:=xs) (i:=m) (by omega)
  simp only[Z0]
  by_cases h0:xs.getD m 0=0
  ·rw[if_pos h0]
   have h1:=Zuu neg xs.length (lm xs) ((m+1:Nat):Int) (xs.getD m 0) (by simp) (by rw[h0];rfl) (by rw[e1];omega) (by rw[e1,Int.toNat_natCast];exact hx)
   rw[e1] at h1
   exact Za.loop h1 (ih (by omega))
  ·rw[if_neg h0]
   exact Za.loop_out (Zut neg xs.length (lm xs) ((m+1:Nat):Int) (xs.getD m 0) (by simp) (by simpa using h0) (by rw[e1];omega) (by rw[e1,Int.toNat_natCast];exact hx)) (by intro e;cases e)
theorem Zgn (neg:Bool) (xs:List Int) (hz:(((Z0 xs xs.length:Nat):Int)==0)=true) (hl:Za Yir (.loop Ti) (D1 neg xs.length (lm xs) (xs.length:Int)) (.exit 0) (D1 neg xs.length (lm xs) ((Z0 xs xs.length:Nat):Int))):Ze Yir 133 [.bool neg, .sl xs.length (lm xs)] (.agg [.bool false, .sl 0 []]):=Ze.of_bodyW (fn:=Zc2) (s:=(.val (.bool neg)::(.val (.sl xs.length (lm xs))::(dds 2 (.box [.bool false, .sl 0 []]::(.val (.int .i64 ((Z0 xs xs.length:Nat):Int))::(dds 14 (.val (.int .i64 ((Z0 xs xs.length:Nat):Int))::(.val (.bool (((Z0 xs xs.length:Nat):Int)==0))::(.val (.agg [.bool false, .sl 0 []])::(dds 6 []))))))))))) (ex := .ret) rfl rfl (Za.seq (Za.script (t:=(.val (.bool neg)::(vl xs::(dds 2 (.box [.bool false, .sl 0 []]::(dds 24 [])))))) (ps:=[]) Qn 300 [] [0,1,4] (by kernel_rfl) trivial) (Za.seq (Za.script (t:=(.val (.bool neg)::(vl xs::(dds 2 (.box [.bool false, .sl 0 []]::(vi (xs.length:Int)::(dds 23 []))))))) (ps:=[]) Qn 300 [] [0,1,4,5] (by kernel_rfl) trivial) (Za.seq (Za.block hl) (Za.script (t:=(.val (.bool neg)::(vl xs::(dds 2 (.box [.bool false, .sl 0 []]::(vi ((Z0 xs xs.length:Nat):Int)::(dds 14 (vi ((Z0 xs xs.length:Nat):Int)::(.val (.bool (((Z0 xs xs.length:Nat):Int)==0))::(.val (.agg [.bool false, .sl 0 []])::(dds 6 []))))))))))) (ex := .ret) (ps:=[(((Z0 xs xs.length:Nat):Int)==0)=true]) Qn 300 [.b true] [0,1,4,5,20,21,22] (by kernel_rfl) ⟨hz,trivial⟩)))) (by intro i e;cases e) rfl
theorem Zgo (neg:Bool) (xs:List Int) (hz:(((Z0 xs xs.length:Nat):Int)==0)=false) (hl:Za Yir (.loop Ti) (D1 neg xs.length (lm xs) (xs.length:Int)) (.exit 0) (D1 neg xs.length (lm xs) ((Z0 xs xs.length:Nat):Int))) (hsc:0≤(Int.toNat ((Z0 xs xs.length:Nat):Int))∧(Int.toNat ((Z0 xs xs.length:Nat):Int))≤(Int.toNat ((Z0 xs xs.length:Nat):Int))∧(Int.toNat ((Z0 xs xs.length:Nat):Int))≤xs.length∧(true=true→true=true)):Ze Yir 133 [.bool neg, .sl xs.length (lm xs)] (.agg [.bool neg, .sl ((Int.toNat ((Z0 xs xs.length:Nat):Int))-0) (List.take (((Int.toNat ((Z0 xs xs.length:Nat):Int))-0)*1) (List.drop (0*1) (lm xs)))]):=Ze.of_bodyW (fn:=Zc2) (s:=(.val (.bool neg)::(.val (.sl xs.length (lm xs))::(dds 2 (.box [.bool neg, .sl ((Int.toNat ((Z0 xs xs.length:Nat):Int))-0) (List.take (((Int.toNat ((Z0 xs xs.length:Nat):Int))-0)*1) (List.drop (0*1) (lm xs)))]::(.val (.int .i64 ((Z0 xs xs.length:Nat):Int))::(dds 14 (.val (.int .i64 ((Z0 xs xs.length:Nat):Int))::(.val (.bool (((Z0 xs xs.length:Nat):Int)==0))::(dds 1 (.val (.bool neg)::(.val (.sl xs.length (lm xs))::(.val (.int .i64 ((Z0 xs xs.length:Nat):Int))::(.val (.int .i64 ((Z0 xs xs.length:Nat):Int))::(.val (.sl ((Int.toNat ((Z0 xs xs.length:Nat):Int))-0) (List.take (((Int.toNat ((Z0 xs xs.length:Nat):Int))-0)*1) (List.drop (0*1) (lm xs))))::(.val (.agg [.bool neg, .sl ((Int.toNat ((Z0 xs xs.length:Nat):Int))-0) (List.take (((Int.toNat ((Z0 xs xs.length:Nat):Int))-0)*1) (List.drop (0*1) (lm xs)))])::[])))))))))))))))) (ex := .ret) rfl rfl (Za.seq (Za.script (t:=(.val (.bool neg)::(vl xs::(dds 2 (.box [.bool false, .sl 0 []]::(dds 24 [])))))) (ps:=[]) Qn 300 [] [0,1,4] (by kernel_rfl) trivial) (Za.seq (Za.script (t:=(.val (.bool neg)::(vl xs::(dds 2 (.box [.bool false, .sl 0 []]::(vi (xs.length:Int)::(dds 23 []))))))) (ps:=[]) Qn 300 [] [0,1,4,5] (by kernel_rfl) trivial) (Za.seq (Za.block hl) (Za.script (t:=(.val (.bool neg)::(vl xs::(dds 2 (.box [.bool neg, .sl ((Int.toNat ((Z0 xs xs.length:Nat):Int))-0) (List.take (((Int.toNat ((Z0 xs xs.length:Nat):Int))-0)*1) (List.drop (0*1) (lm xs)))]::(vi ((Z0 xs xs.length:Nat):Int)::(dds 14 (vi ((Z0 xs xs.length:Nat):Int)::(.val (.bool (((Z0 xs xs.length:Nat):Int)==0))::(dds 1 (.val (.bool neg)::(vl xs::(vi ((Z0 xs xs.length:Nat):Int)::(vi ((Z0 xs xs.length:Nat):Int)::(.val (.sl ((Int.toNat ((Z0 xs xs.length:Nat):Int))-0) (List.take (((Int.toNat ((Z0 xs xs.length:Nat):Int))-0)*1) (List.drop (0*1) (lm xs))))::(.val (.agg [.bool neg, .sl ((Int.toNat ((Z0 xs xs.length:Nat):Int))-0) (List.take (((Int.toNat ((Z0 xs xs.length:Nat):Int))-0)*1) (List.drop (0*1) (lm xs)))])::[])))))))))))))))) (ex := .ret) (ps:=[(((Z0 xs xs.length:Nat):Int)==0)=false,0≤((Z0 xs xs.length:Nat):Int),0≤((Z0 xs xs.length:Nat):Int),0≤(Int.toNat ((Z0 xs xs.length:Nat):Int))∧(Int.toNat ((Z0 xs xs.length:Nat):Int))≤(Int.toNat ((Z0 xs xs.length:Nat):Int))∧(Int.toNat ((Z0 xs xs.length:Nat):Int))≤xs.length∧(true=true→true=true)]) Qn 300 [.b false] [0,1,4,5,20,21,23,24,25,26,27,28] (by kernel_rfl) ⟨hz,(Int.natCast_nonneg _),(Int.natCast_nonneg _),hsc,trivial⟩)))) (by intro i e;cases e) rfl
theorem X2 {neg:Bool} {xs:List Int} (hu:U32 xs) (hN:xs.length≤1048576):Ze Yir 133 [.bool neg, .sl xs.length (lm xs)] (Zl (rv neg xs)):=by
 obtain⟨e1,e2,e3⟩:=Zdh xs
 have ht:=D6 (neg:=neg) hu
 have hn:=Zqa (neg:=neg) hu
 have hlen:(Zc xs).length=Z0 xs xs.length:=by rw[← e1,Int.toNat_natCast];rfl
 have hl:=Zmj neg xs hN xs.length (Nat.le_refl _)
 by_cases h0:Z0 xs xs.length=0
 ·have h:=Zgn neg xs (by rw[h0];rfl) hl
  have hz:(Zb (rv neg xs).natAbs).length=0:=by rw[← ht,hlen,h0]
  have hv:rv neg xs=0:=by have:=(J6 _).1 hz;omega
  rw[hv]
  exact h
 ·have h:=Zgo neg xs (by rw[beq_eq_false_iff_ne];omega) hl ⟨e3.1,Nat.le_refl _,e3.2.1,fun _=>rfl⟩
  rw[e2,e1,ht] at h
  have hp:decide (0<(Zb (rv neg xs).natAbs).length)=true:=by rw[← ht,hlen];simp;omega
  rw[hp,Bool.and_true] at hn
  rw[Zl,← hn]
  exact h
theorem Zlf (n:Int) (c1:decide (n<0)=true) (hcall:Ze Yir 133 [.bool (decide (n<0)), .sl 2 [.int .u32 (u32.wrap (u64.wrap (0-(u64.wrap n)))), .int .u32 (u32.wrap (Int.fdiv (u64.wrap (0-(u64.wrap n))) (2^(min (Int.toNat 32) (IntKind.bits .u64)))))]] (.agg [.bool (decide (n<0)), .sl ((Zb (Int.natAbs n)).length) (lm (Zb (Int.natAbs n)))])):Ze Yir 94 [.int .i64 n] (.agg [.bool (decide (n<0)), .sl ((Zb (Int.natAbs n)).length) (lm (Zb (Int.natAbs n)))]):=Ze.script (ps:=[(decide (n<0))=true,¬ (32:Int)<0,Ze Yir 133 [.bool (decide (n<0)), .sl 2 [.int .u32 (u32.wrap (u64.wrap (0-(u64.wrap n)))), .int .u32 (u32.wrap (Int.fdiv (u64.wrap (0-(u64.wrap n))) (2^(min (Int.toNat 32) (IntKind.bits .u64)))))]] (.agg [.bool (decide (n<0)), .sl ((Zb (Int.natAbs n)).length) (lm (Zb (Int.natAbs n)))])]) Qn rfl 300 rfl [.b true, .r (.agg [.bool (decide (n<0)), .sl ((Zb (Int.natAbs n)).length) (lm (Zb (Int.natAbs n)))])] (by kernel_rfl) ⟨c1,(by decide),hcall,trivial⟩
theorem Zle (n:Int) (c1:decide (n<0)=false) (hcall:Ze Yir 133 [.bool (decide (n<0)), .sl 2 [.int .u32 (u32.wrap (u64.wrap n)), .int .u32 (u32.wrap (Int.fdiv (u64.wrap n) (2^(min (Int.toNat 32) (IntKind.bits .u64)))))]] (.agg [.bool (decide (n<0)), .sl ((Zb (Int.natAbs n)).length) (lm (Zb (Int.natAbs n)))])):Ze Yir 94 [.int .i64 n] (.agg [.bool (decide (n<0)), .sl ((Zb (Int.natAbs n)).length) (lm (Zb (Int.natAbs n)))]):=Ze.script (ps:=[(decide (n<0))=false,¬ (32:Int)<0,Ze Yir 133 [.bool (decide (n<0)), .sl 2 [.int .u32 (u32.wrap (u64.wrap n)), .int .u32 (u32.wrap (Int.fdiv (u64.wrap n) (2^(min (Int.toNat 32) (IntKind.bits .u64)))))]] (.agg [.bool (decide (n<0)), .sl ((Zb (Int.natAbs n)).length) (lm (Zb (Int.natAbs n)))])]) Qn rfl 300 rfl [.b false, .r (.agg [.bool (decide (n<0)), .sl ((Zb (Int.natAbs n)).length) (lm (Zb (Int.natAbs n)))])] (by kernel_rfl) ⟨c1,(by decide),hcall,trivial⟩
theorem Zq4 {n:Int} (hn : -9223372036854775808≤n∧n≤9223372036854775807):Ze Yir 94 [.int .i64 n] (Zl n):=by
 cases c1:decide (n<0) with
 | true =>
  have h0:n<0:=by simpa using c1
  have eu:(u64.wrap (0-u64.wrap n)) = -n:=by rw[Qw,Qw];omega
  obtain⟨k1,k2⟩:=Gr (u:=(u64.wrap (0-u64.wrap n))) (by rw[eu];omega)
  refine Zlf n c1 ?_
  have:=X2 (neg:=true) k1 (by simp)
  have e:rv true [u32.wrap (u64.wrap (0-u64.wrap n)),u32.wrap (Int.fdiv (u64.wrap (0-u64.wrap n)) (2^(min (Int.toNat 32) (IntKind.bits .u64))))]=n:=by
   unfold rv;rw[k2,if_pos rfl,eu];omega
  rw[e,Zl,c1] at this
  rw[c1]
  exact this
 | false =>
  have h0:¬ n<0:=by simpa using c1
  have eu:u64.wrap n=n:=by rw[Qw];omega
  obtain⟨k1,k2⟩:=Gr (u:=u64.wrap n) (by rw[eu];omega)
  refine Zle n c1 ?_
  have:=X2 (neg:=false) k1 (by simp)
  have e:rv false [u32.wrap (u64.wrap n),u32.wrap (Int.fdiv (u64.wrap n) (2^(min (Int.toNat 32) (IntKind.bits .u64))))]=n:=by
   unfold rv;rw[if_neg (by decide),k2,eu]
  rw[e,Zl,c1] at this
  rw[c1]
  exact this
theorem Zsk (neg:Bool) (xs:List Int) (a r:Int) (h1:Ze Yir 122 [.agg [.bool neg, .sl xs.length (lm xs)]] (.tup [.bool (decide (a<0)), .sl ((Zb (Int.natAbs a)).length) (lm (Zb (Int.natAbs a)))])) (h2:Ze Yir 133 [.bool (decide (a<0)), .sl (Zb (Int.natAbs a)).length (lm (Zb (Int.natAbs a)))] (.agg [.bool (decide (r<0)), .sl ((Zb (Int.natAbs r)).length) (lm (Zb (Int.natAbs r)))])) (hal:List.length (lm (Zb (Int.natAbs a)))=(Zb (Int.natAbs a)).length*1) (han:(Zb (Int.natAbs a)).length≤1048576):Ze Yir 132 [.agg [.bool neg, .sl xs.length (lm xs)]] (.agg [.bool (decide (r<0)), .sl ((Zb (Int.natAbs r)).length) (lm (Zb (Int.natAbs r)))]):=Ze.script (ps:=[Ze Yir 122 [.agg [.bool neg, .sl xs.length (lm xs)]] (.tup [.bool (decide (a<0)), .sl ((Zb (Int.natAbs a)).length) (lm (Zb (Int.natAbs a)))]),List.length (lm (Zb (Int.natAbs a)))=((Zb (Int.natAbs a)).length)*1,((Zb (Int.natAbs a)).length)≤1048576,Ze Yir 133 [.bool (decide (a<0)), .sl ((Zb (Int.natAbs a)).length) (lm (Zb (Int.natAbs a)))] (.agg [.bool (decide (r<0)), .sl ((Zb (Int.natAbs r)).length) (lm (Zb (Int.natAbs r)))])]) Qn rfl 300 rfl [.r (.tup [.bool (decide (a<0)), .sl ((Zb (Int.natAbs a)).length) (lm (Zb (Int.natAbs a)))]), .r (.agg [.bool (decide (r<0)), .sl ((Zb (Int.natAbs r)).length) (lm (Zb (Int.natAbs r)))])] (by kernel_rfl) ⟨h1,hal,han,h2,trivial⟩
theorem Zsx (neg:Bool) (xs:List Int) (a r:Int) (h1:Ze Yir 122 [.agg [.bool neg, .sl xs.length (lm xs)]] (.tup [.bool (decide (a<0)), .sl ((Zb (Int.natAbs a)).length) (lm (Zb (Int.natAbs a)))])) (h2:Ze Yir 133 [.bool (!(decide (a<0))), .sl (Zb (Int.natAbs a)).length (lm (Zb (Int.natAbs a)))] (.agg [.bool (decide (r<0)), .sl ((Zb (Int.natAbs r)).length) (lm (Zb (Int.natAbs r)))])) (hal:List.length (lm (Zb (Int.natAbs a)))=(Zb (Int.natAbs a)).length*1) (han:(Zb (Int.natAbs a)).length≤1048576):Ze Yir 112 [.agg [.bool neg, .sl xs.length (lm xs)]] (.agg [.bool (decide (r<0)), .sl ((Zb (Int.natAbs r)).length) (lm (Zb (Int.natAbs r)))]):=Ze.script (ps:=[Ze Yir 122 [.agg [.bool neg, .sl xs.length (lm xs)]] (.tup [.bool (decide (a<0)), .sl ((Zb (Int.natAbs a)).length) (lm (Zb (Int.natAbs a)))]),List.length (lm (Zb (Int.natAbs a)))=((Zb (Int.natAbs a)).length)*1,((Zb (Int.natAbs a)).length)≤1048576,Ze Yir 133 [.bool (!(decide (a<0))), .sl ((Zb (Int.natAbs a)).length) (lm (Zb (Int.natAbs a)))] (.agg [.bool (decide (r<0)), .sl ((Zb (Int.natAbs r)).length) (lm (Zb (Int.natAbs r)))])]) Qn rfl 300 rfl [.r (.tup [.bool (decide (a<0)), .sl ((Zb (Int.natAbs a)).length) (lm (Zb (Int.natAbs a)))]), .r (.agg [.bool (decide (r<0)), .sl ((Zb (Int.natAbs r)).length) (lm (Zb (Int.natAbs r)))])] (by kernel_rfl) ⟨h1,hal,han,h2,trivial⟩
theorem Zak (xs:List Int):List.length (lm xs)=xs.length*1:=by rw [Fu,Nat.mul_one]
theorem rv_pos (n:Int):rv false (Zb n.natAbs)=(n.natAbs:Int):=by unfold rv;rw [if_neg (by decide),Q9]
theorem Zp4 (n:Int):rv (!decide (n<0)) (Zb n.natAbs) = -n:=by
 unfold rv
 rw[Q9]
 by_cases h:n<0 <;> simp[h] <;> omega
theorem Zdd {neg:Bool} {xs:List Int} (hu:U32 xs) (hN:xs.length≤1048576):Ze Yir 132 [.agg [.bool neg, .sl xs.length (lm xs)]] (Zl (rv neg xs)):=by
 have hl:(Zb (rv neg xs).natAbs).length≤1048576:=Nat.le_trans (Ue hu) hN
 have h2:=X2 (neg:=decide (rv neg xs<0)) (Qx (rv neg xs).natAbs) hl
 rw[V7] at h2
 exact Zsk neg xs (rv neg xs) (rv neg xs) (Jo hu hN) h2 (Zak _) hl
theorem Tm {neg:Bool} {xs:List Int} (hu:U32 xs) (hN:xs.length≤1048576):Ze Yir 112 [.agg [.bool neg, .sl xs.length (lm xs)]] (Zl (-(rv neg xs))):=by
 have hl:(Zb (rv neg xs).natAbs).length≤1048576:=Nat.le_trans (Ue hu) hN
 have h2:=X2 (neg := !decide (rv neg xs<0)) (Qx (rv neg xs).natAbs) hl
 rw[Zp4] at h2
 exact Zsx neg xs (rv neg xs) (-(rv neg xs)) (Jo hu hN) h2 (Zak _) hl
def Zla (a:Int):AV :=
 match (((Zb (Int.natAbs a)).length:Nat):Int)==0 with
 | true=>(.int .i64 0)
 | false=>(match decide (a<0) with
 | true=>(.int .i64 (-1))
 | false=>(.int .i64 1))
theorem Yrun73 (neg:Bool) (xs:List Int) (a:Int) (h1:Ze Yir 122 [.agg [.bool neg, .sl xs.length (lm xs)]] (.tup [.bool (decide (a<0)), .sl ((Zb (Int.natAbs a)).length) (lm (Zb (Int.natAbs a)))])):Ze Yir 73 [.agg [.bool neg, .sl xs.length (lm xs)]] (Zla a):=by
 unfold Zla
 cases c1:((((Zb (Int.natAbs a)).length:Nat):Int)==0)
 ·cases c2:(decide (a<0))
  ·exact Ze.script (r := .int .i64 1) (ps:=[Ze Yir 122 [.agg [.bool neg, .sl xs.length (lm xs)]] (.tup [.bool (decide (a<0)), .sl ((Zb (Int.natAbs a)).length) (lm (Zb (Int.natAbs a)))]),((((Zb (Int.natAbs a)).length:Nat):Int)==0)=false,(decide (a<0))=false]) Qn rfl 300 rfl [.r (.tup [.bool (decide (a<0)), .sl ((Zb (Int.natAbs a)).length) (lm (Zb (Int.natAbs a)))]), .b false, .b false] (by kernel_rfl) ⟨h1,c1,c2,trivial⟩
  ·exact Ze.script (r := .int .i64 (-1)) (ps:=[Ze Yir 122 [.agg [.bool neg, .sl xs.length (lm xs)]] (.tup [.bool (decide (a<0)), .sl ((Zb (Int.natAbs a)).length) (lm (Zb (Int.natAbs a)))]),((((Zb (Int.natAbs a)).length:Nat):Int)==0)=false,(decide (a<0))=true]) Qn rfl 300 rfl [.r (.tup [.bool (decide (a<0)), .sl ((Zb (Int.natAbs a)).length) (lm (Zb (Int.natAbs a)))]), .b false, .b true] (by kernel_rfl) ⟨h1,c1,c2,trivial⟩
 ·exact Ze.script (r := .int .i64 0) (ps:=[Ze Yir 122 [.agg [.bool neg, .sl xs.length (lm xs)]] (.tup [.bool (decide (a<0)), .sl ((Zb (Int.natAbs a)).length) (lm (Zb (Int.natAbs a)))]),((((Zb (Int.natAbs a)).length:Nat):Int)==0)=true]) Qn rfl 300 rfl [.r (.tup [.bool (decide (a<0)), .sl ((Zb (Int.natAbs a)).length) (lm (Zb (Int.natAbs a)))]), .b true] (by kernel_rfl) ⟨h1,c1,trivial⟩
theorem Ge {neg:Bool} {xs:List Int} (hu:U32 xs) (hN:xs.length≤1048576):Ze Yir 73 [.agg [.bool neg, .sl xs.length (lm xs)]] (.int .i64 (Xh (rv neg xs))):=by
 have h:=Yrun73 neg xs (rv neg xs) (Jo hu hN)
 have e:Zla (rv neg xs) = .int .i64 (Xh (rv neg xs)):=by
  unfold Zla Xh
  have hz:=J6 (rv neg xs).natAbs
  by_cases h0:rv neg xs=0
  ·rw[h0];rfl
  ·have e1:((((Zb (rv neg xs).natAbs).length:Nat):Int)==0)=false:=by rw[beq_eq_false_iff_ne];omega
   rw[e1]
   by_cases h1:rv neg xs<0
   ·simp[h1]
   ·have h2:0<rv neg xs:=by omega
    simp[h1,h2]
 rw[← e];exact h
def TWA:Jx:=TQ0
theorem Zv:Q1 Yir TWA:=Qn
end Go.Proofs.Ythnnfemologhfaa
