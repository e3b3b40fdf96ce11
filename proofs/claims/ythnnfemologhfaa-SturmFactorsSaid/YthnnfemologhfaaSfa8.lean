/- Texts of the proof of SturmFactors, packed by pack.py: part 8 of 17. -/
import Derived.Test.YthnnfemologhfaaSfa7
namespace Go.Proofs.Ythnnfemologhfaa
open Go.IntKind (i64 u64 u32)
open Go.Ai
set_option maxRecDepth 100000
def F9 (la:Nat) (xa:List AV) (lb:Nat) (bs:List AV) (n:Nat) (cs:List AV) (i:Int):Zk:=(.val (.sl la xa)::(.val (.sl lb bs)::(dds 2 (.own 1 0 []::(.own 1 n cs::(.val (.int .i64 i)::(dds 59 [])))))))
def Da (la:Nat) (xa:List AV) (lb:Nat) (bs:List AV) (n:Nat) (cs:List AV) (i c k:Int):Zk:=(.val (.sl la xa)::(.val (.sl lb bs)::(dds 2 (.own 1 0 []::(.own 1 n cs::(.val (.int .i64 i)::(.val (.int .u64 c)::(.val (.int .i64 k)::(dds 57 [])))))))))
theorem Zku (la:Nat) (xa:List AV) (lb:Nat) (bs:List AV) (n:Nat) (cs ds:List AV) (i c k x y z:Int) (c1:(decide (k<(lb:Int)))=true) (n1:0≤(i64.wrap (i+k))∧(i64.wrap (i+k))<(n:Int)) (n2:Zx cs (Int.toNat (i64.wrap (i+k))*1) 1 true=some (.int .u32 z)) (n3:0≤i∧i<(la:Int)) (n4:Zx (List.drop (Int.toNat i*1) xa) 0 1 true=some (.int .u32 x)) (n5:0≤k∧k<(lb:Int)) (n6:Zx (List.drop (Int.toNat k*1) bs) 0 1 true=some (.int .u32 y)) (n7:0≤(i64.wrap (i+k))∧(i64.wrap (i+k))<(n:Int)) (n8:X1 cs (Int.toNat (i64.wrap (i+k))*1) [.int .u32 (u32.wrap (u64.wrap (c+(u64.wrap ((u64.wrap z)+(u64.wrap ((u64.wrap x)*(u64.wrap y))))))))]=some ds):Za Yir Lw (Da la xa lb bs n cs i c k) .norm (Da la xa lb bs n ds i (Int.fdiv (u64.wrap (c+(u64.wrap ((u64.wrap z)+(u64.wrap ((u64.wrap x)*(u64.wrap y))))))) (2^(min (Int.toNat 32) (IntKind.bits .u64)))) (i64.wrap (k+1))):=Za.script (ps:=[(decide (k<(lb:Int)))=true,0≤(i64.wrap (i+k))∧(i64.wrap (i+k))<(n:Int),Zx cs (Int.toNat (i64.wrap (i+k))*1) 1 true=some (.int .u32 z),0≤i∧i<(la:Int),Zx (List.drop (Int.toNat i*1) xa) 0 1 true=some (.int .u32 x),0≤k∧k<(lb:Int),Zx (List.drop (Int.toNat k*1) bs) 0 1 true=some (.int .u32 y),0≤(i64.wrap (i+k))∧(i64.wrap (i+k))<(n:Int),X1 cs (Int.toNat (i64.wrap (i+k))*1) [.int .u32 (u32.wrap (u64.wrap (c+(u64.wrap ((u64.wrap z)+(u64.wrap ((u64.wrap x)*(u64.wrap y))))))))]=some ds,¬ (32:Int)<0]) J9 300 [.b true, .v (.int .u32 z), .v (.int .u32 x), .v (.int .u32 y), .l ds] [0,1,4,5,6,7,8] (by kernel_rfl) ⟨c1,n1,n2,n3,n4,n5,n6,n7,n8,(by decide),trivial⟩
theorem Zkt (la:Nat) (xa:List AV) (lb:Nat) (bs:List AV) (n:Nat) (cs:List AV) (i c k:Int) (c1:(decide (k<(lb:Int)))=false):Za Yir Lw (Da la xa lb bs n cs i c k) (.exit 2) (Da la xa lb bs n cs i c k):=Za.script (ps:=[(decide (k<(lb:Int)))=false]) J9 300 [.b false] [0,1,4,5,6,7,8] (by kernel_rfl) ⟨c1,trivial⟩
theorem Zfz (la:Nat) (xa:List AV) (lb:Nat) (bs:List AV) (n:Nat) (cs:List AV) (i:Int) (h:(decide (i<(la:Int)))=false):Za Yir Lv (F9 la xa lb bs n cs i) (.exit 0) (F9 la xa lb bs n cs i):=Za.script (ps:=[(decide (i<(la:Int)))=false]) J9 300 [.b false] [0,1,4,5,6] (by kernel_rfl) ⟨h,trivial⟩
theorem Zbi (la:Nat) (xa:List AV) (lb:Nat) (bs:List AV) (n:Nat) (cs ds es:List AV) (i c k:Int) (h:(decide (i<(la:Int)))=true) (hl:Za Yir (.loop Lw) (Da la xa lb bs n cs i 0 0) (.exit 2) (Da la xa lb bs n ds i c k)) (hix:0≤i64.wrap (i+(lb:Int))∧i64.wrap (i+(lb:Int))<(n:Int)) (hst:X1 ds (Int.toNat (i64.wrap (i+(lb:Int)))*1) [.int .u32 (u32.wrap c)]=some es):Za Yir Lv (F9 la xa lb bs n cs i) .norm (F9 la xa lb bs n es (i64.wrap (i+1))):=(Za.seq (Za.script (t:=(.val (.sl la xa)::(.val (.sl lb bs)::(dds 2 (.own 1 0 []::(.own 1 n cs::(vi i::(dds 8 (vi i::(.val (.sl la xa)::(vi (la:Int)::(.val (.bool (decide (i<(la:Int))))::(dds 47 []))))))))))))) (ps:=[(decide (i<(la:Int)))=true]) J9 300 [.b true] [0,1,4,5,6,15,16,17,18] (by kernel_rfl) ⟨h,trivial⟩) (Za.seq (Za.block_norm (Za.seq (Za.script (t:=(.val (.sl la xa)::(.val (.sl lb bs)::(dds 2 (.own 1 0 []::(.own 1 n cs::(vi i::(.val (.int .u64 0)::(dds 7 (vi i::(.val (.sl la xa)::(vi (la:Int)::(.val (.bool (decide (i<(la:Int))))::(dds 47 [])))))))))))))) (ps:=[]) J9 300 [] [0,1,4,5,6,7,15,16,17,18] (by kernel_rfl) trivial) (Za.seq (Za.seq (Za.script (t:=(.val (.sl la xa)::(.val (.sl lb bs)::(dds 2 (.own 1 0 []::(.own 1 n cs::(vi i::(.val (.int .u64 0)::(vi 0::(dds 57 [])))))))))) (ps:=[]) J9 300 [] [0,1,4,5,6,7,8] (by kernel_rfl) trivial) (Za.block hl)) (Za.script (t:=(.val (.sl la xa)::(.val (.sl lb bs)::(dds 2 (.own 1 0 []::(.own 1 n es::(vi i::(.val (.int .u64 c)::(vi k::(dds 48 (.dup 5::(vi i::(.val (.sl lb bs)::(vi (lb:Int)::(vi (i64.wrap (i+(lb:Int)))::(.val (.int .u64 c)::(.val (.int .u32 (u32.wrap c))::(.ptr 5 (Int.toNat (i64.wrap (i+(lb:Int)))*1)::(dds 1 []))))))))))))))))))) (ps:=[0≤(i64.wrap (i+(lb:Int)))∧(i64.wrap (i+(lb:Int)))<(n:Int),X1 ds (Int.toNat (i64.wrap (i+(lb:Int)))*1) [.int .u32 (u32.wrap c)]=some es]) J9 300 [.l es] [0,1,4,5,6,7,8,57,58,59,60,61,62,63,64] (by kernel_rfl) ⟨hix,hst,trivial⟩)))) (Za.script (t:=(.val (.sl la xa)::(.val (.sl lb bs)::(dds 2 (.own 1 0 []::(.own 1 n es::(vi (i64.wrap (i+1))::(dds 59 [])))))))) (ps:=[]) J9 300 [] [0,1,4,5,6] (by kernel_rfl) trivial)))
def Hg (a:Int) (bs:List Int) (i:Nat):Nat→Nat→List Int→Int→List Int × Int
 | 0,_,out,c=>(out,c)
 | r+1,k,out,c=>Hg a bs i r (k+1) (out.set (i+k) ((c+(out.getD (i+k) 0+a*bs.getD k 0)) % 4294967296)) ((c+(out.getD (i+k) 0+a*bs.getD k 0)) / 4294967296)
theorem L4 {a b c o:Int} (ha:0≤a∧a<4294967296) (hb:0≤b∧b<4294967296) (hc:0≤c∧c<4294967296) (ho:0≤o∧o<4294967296) :
  0≤a*b∧a*b≤18446744065119617025∧0≤c+(o+a*b)∧c+(o+a*b)<18446744073709551616:=by
 have h1:=Int.mul_nonneg ha.1 hb.1
 have h2:a*b≤4294967295*4294967295:=Int.mul_le_mul (by omega) (by omega) hb.1 (by omega)
 omega
theorem H8 {xs:List Int} {i j:Nat} {v:Int} (h:i ≠ j):(xs.set i v).getD j 0=xs.getD j 0:=by
 simp only[List.getD_eq_getElem?_getD,List.getElem?_set_ne h]
theorem S9 {a:Int} {bs:List Int} {i:Nat} (ha:0≤a∧a<4294967296) (hb:U32 bs):∀ (r k:Nat) (out:List Int) (c:Int),r+k=bs.length→i+bs.length≤out.length→U32 out→0≤c∧c<4294967296 →
  (Hg a bs i r k out c).1.length=out.length∧U32 (Hg a bs i r k out c).1∧(0≤(Hg a bs i r k out c).2∧(Hg a bs i r k out c).2<4294967296) ∧
  Zn (Hg a bs i r k out c).1+4294967296^(i+bs.length)*(Hg a bs i r k out c).2=Zn out+4294967296^(i+k)*(c+a*Zn (bs.drop k)) ∧
  ∀ j,i+bs.length≤j→(Hg a bs i r k out c).1.getD j 0=out.getD j 0:=by
 intro r
 induction r with
 | zero =>
  intro k out c hk _ hu hc
  have hk':k=bs.length:=by omega
  subst hk'
  refine⟨rfl,hu,hc,?_,fun _ _=>rfl⟩
  simp[Hg,Zn]
 | succ r ih =>
  intro k out c hk hl hu hc
  have hbk:=Zw hb k
  have hok:=Zw hu (i+k)
  obtain⟨w1,w2,w3,w4⟩:=L4 ha hbk hc hok
  have hlt:i+k<out.length:=by omega
  simp only[Hg]
  generalize hW:c+(out.getD (i+k) 0+a*bs.getD k 0)=W at *
  have hm:0≤W % 4294967296∧W % 4294967296<4294967296:=by omega
  obtain⟨g1,g2,g3,g4,g5⟩:=ih (k+1) (out.set (i+k) (W % 4294967296)) (W / 4294967296) (by omega) (by simpa using hl) (Q6 hu hm) (by omega)
  refine⟨by simpa using g1,g2,g3,?_,fun j hj => ?_⟩
  ·rw[g4,J0 out (i+k) _ hlt]
   have hd:Zn (bs.drop k)=bs.getD k 0+4294967296*Zn (bs.drop (k+1)):=by
    rw[List.drop_eq_getElem_cons (show k<bs.length by omega)]
    simp[Zn,List.getD_eq_getElem?_getD,List.getElem?_eq_getElem (show k<bs.length by omega)]
   rw[hd]
   have hp:(4294967296:Int)^(i+(k+1))=4294967296^(i+k)*4294967296:=by rw[← Nat.add_assoc,Int.pow_succ]
   rw[hp]
   generalize (4294967296:Int)^(i+k)=p at *
   generalize Zn (bs.drop (k+1))=V at *
   have e1:W=4294967296*(W / 4294967296)+W % 4294967296:=by omega
   have e2:c=W-out.getD (i+k) 0-a*bs.getD k 0:=by omega
   rw[e2]
   generalize W / 4294967296=q at *
   generalize W % 4294967296=m at *
   generalize out.getD (i+k) 0=o at *
   generalize bs.getD k 0=b at *
   subst e1
   grind
  ·rw[g5 j hj,H8 (by omega)]
theorem Zft (xa bs:List Int) (ha:U32 xa) (hb:U32 bs) (n i:Nat) (hn:n≤1048576) (hi:i<xa.length) (hib:i+bs.length≤n):∀ (r k:Nat) (out:List Int) (c:Int),r+k=bs.length→out.length=n→U32 out→0≤c∧c<4294967296 →
  Za Yir (.loop Lw) (Da xa.length (lm xa) bs.length (lm bs) n (lm out) (i:Int) c (k:Int)) (.exit 2)
   (Da xa.length (lm xa) bs.length (lm bs) n (lm (Hg (xa.getD i 0) bs i r k out c).1) (i:Int) (Hg (xa.getD i 0) bs i r k out c).2 (bs.length:Int)):=by
 intro r
 induction r with
 | zero =>
  intro k out c hk _ _ _
  have hk':k=bs.length:=by omega
  subst hk'
  exact Za.loop_out (Zkt xa.length (lm xa) bs.length (lm bs) n (lm out) (i:Int) c (bs.length:Int) (by simp)) (by intro e;cases e)
 | succ r ih =>
  intro k out c hk hl hu hc
  have hai:=Zw ha i
  have hbk:=Zw hb k
  have hok:=Zw hu (i+k)
  obtain⟨w1,w2,w3,w4⟩:=L4 hai hbk hc hok
  have ei:i64.wrap ((i:Int)+(k:Int))=((i+k:Nat):Int):=by rw[w64 (by omega) (by omega)];omega
  have ek:i64.wrap ((k:Int)+1)=((k+1:Nat):Int):=by rw[w64 (by omega) (by omega)];omega
  have hz:=Po (xs:=out) (i:=i+k) (by omega)
  have hx:=Ju (xs:=xa) (i:=i) hi
  have hy:=Ju (xs:=bs) (i:=k) (by omega)
  have hst:=Wm (xs:=out) (i:=i+k) (v:=(c+(out.getD (i+k) 0+xa.getD i 0*bs.getD k 0)) % 4294967296) (by omega)
  have eW:u64.wrap (c+u64.wrap (u64.wrap (out.getD (i+k) 0)+u64.wrap (u64.wrap (xa.getD i 0)*u64.wrap (bs.getD k 0))))=c+(out.getD (i+k) 0+xa.getD i 0*bs.getD k 0):=by
   have q1:u64.wrap (xa.getD i 0)=xa.getD i 0:=by rw[Ql];omega
   have q2:u64.wrap (bs.getD k 0)=bs.getD k 0:=by rw[Ql];omega
   have q3:u64.wrap (out.getD (i+k) 0)=out.getD (i+k) 0:=by rw[Ql];omega
   rw[q1,q2,q3,Ql,Ql,Ql]
   omega
  have eS:Int.fdiv (c+(out.getD (i+k) 0+xa.getD i 0*bs.getD k 0)) (2^(min (Int.toNat 32) (IntKind.bits .u64)))=(c+(out.getD (i+k) 0+xa.getD i 0*bs.getD k 0)) / 4294967296:=by
   show Int.fdiv _ 4294967296=_
   rw[Int.fdiv_eq_ediv_of_nonneg _ (by omega)]
  have h1:=Zku xa.length (lm xa) bs.length (lm bs) n (lm out) (lm (out.set (i+k) ((c+(out.getD (i+k) 0+xa.getD i 0*bs.getD k 0)) % 4294967296))) (i:Int) c (k:Int) (xa.getD i 0) (bs.getD k 0) (out.getD (i+k) 0)
   (by simp;omega) (by rw[ei];omega) (by rw[ei,Int.toNat_natCast];exact hz) (by omega) (by rw[Int.toNat_natCast];exact hx) (by omega) (by rw[Int.toNat_natCast];exact hy) (by rw[ei];omega) (by rw[ei,Int.toNat_natCast,eW,Gb];exact hst)
  rw[eW,eS,ek] at h1
  exact Za.loop h1 (ih (k+1) _ _ (by omega) (by simpa using hl) (Q6 hu (by omega)) (by omega))
theorem Zfs (xa bs:List Int) (ha:U32 xa) (hb:U32 bs) (hN:xa.length+bs.length≤1048576):∀ (r i:Nat) (out:List Int),r+i=xa.length→out.length=xa.length+bs.length→U32 out→(∀ j,i+bs.length≤j→out.getD j 0=0) →
  ∃ out',out'.length=xa.length+bs.length∧U32 out'∧Zn out'=Zn out+4294967296^i*(Zn (xa.drop i)*Zn bs) ∧
   Za Yir (.loop Lv) (F9 xa.length (lm xa) bs.length (lm bs) (xa.length+bs.length) (lm out) (i:Int)) (.exit 0) (F9 xa.length (lm xa) bs.length (lm bs) (xa.length+bs.length) (lm out') (xa.length:Int)):=by
 intro r
 induction r with
 | zero =>
  intro i out hi hl hu _
  have hi':i=xa.length:=by omega
  subst hi'
  refine⟨out,hl,hu,by simp[Zn],?_⟩
  exact Za.loop_out (Zfz xa.length (lm xa) bs.length (lm bs) (xa.length+bs.length) (lm out) (xa.length:Int) (by simp)) (by intro e;cases e)
 | succ r ih =>
  intro i out hi hl hu hz
  have hai:=Zw ha i
  have hlt:i<xa.length:=by omega
  have hin:=Zft xa bs ha hb (xa.length+bs.length) i hN hlt (by omega) bs.length 0 out 0 (by omega) hl hu (by omega)
  obtain⟨g1,g2,g3,g4,g5⟩:=S9 (i:=i) hai hb bs.length 0 out 0 (by omega) (by omega) hu (by omega)
  generalize Hg (xa.getD i 0) bs i bs.length 0 out 0=q at *
  obtain⟨ds,c⟩:=q
  dsimp only at g1 g2 g3 g4 g5 hin
  have ei:i64.wrap ((i:Int)+(bs.length:Int))=((i+bs.length:Nat):Int):=by rw[w64 (by omega) (by omega)];omega
  have ei1:i64.wrap ((i:Int)+1)=((i+1:Nat):Int):=by rw[w64 (by omega) (by omega)];omega
  have ec:u32.wrap c=c:=by rw[Gb];omega
  have hst:=Wm (xs:=ds) (i:=i+bs.length) (v:=c) (by omega)
  have h1:=Zbi xa.length (lm xa) bs.length (lm bs) (xa.length+bs.length) (lm out) (lm ds) (lm (ds.set (i+bs.length) c)) (i:Int) c (bs.length:Int) (by simp;omega) hin (by rw[ei];omega) (by rw[ei,Int.toNat_natCast,ec];exact hst)
  rw[ei1] at h1
  obtain⟨out',k1,k2,k3,k4⟩:=ih (i+1) (ds.set (i+bs.length) c) (by omega) (by simp;omega) (Q6 g2 g3) (fun j hj=>by rw[H8 (by omega),g5 j (by omega),hz j (by omega)])
  refine⟨out',k1,k2,?_,Za.loop h1 k4⟩
  have hv:Zn (ds.set (i+bs.length) c)=Zn out+4294967296^i*(xa.getD i 0*Zn bs):=by
   rw[J0 ds _ _ (by omega),g5 _ (Nat.le_refl _),hz _ (Nat.le_refl _)]
   simp only[Nat.add_zero,List.drop_zero,Int.zero_add,Int.sub_zero] at g4 ⊢
   exact g4
  have hd:Zn (xa.drop i)=xa.getD i 0+4294967296*Zn (xa.drop (i+1)):=by
   rw[List.drop_eq_getElem_cons hlt]
   simp[Zn,List.getD_eq_getElem?_getD,List.getElem?_eq_getElem hlt]
  rw[k3,hv,hd,Int.pow_succ]
  generalize (4294967296:Int)^i=p at *
  generalize Zn (xa.drop (i+1))=V at *
  grind
theorem Zag {xa bs:List Int} (ha:U32 xa) (hb:U32 bs) (hN:xa.length+bs.length≤1048576) :
  ∃ out,out.length=xa.length+bs.length∧U32 out∧Zn out=Zn xa*Zn bs∧Zd Yir 141 [.sl xa.length (lm xa), .sl bs.length (lm bs)] (.fresh 1 out.length (lm out)):=by
 have en:i64.wrap ((xa.length:Int)+(bs.length:Int))=((xa.length+bs.length:Nat):Int):=by rw[w64 (by omega) (by omega)];omega
 have eN:(Int.toNat (i64.wrap ((xa.length:Int)+(bs.length:Int))))=xa.length+bs.length:=by rw[en,Int.toNat_natCast]
 obtain⟨out,h1,h2,h3,h4⟩:=Zfs xa bs ha hb hN xa.length 0 (List.replicate (xa.length+bs.length) 0) (by omega) (by simp) (fun x hx=>by rw[List.eq_of_mem_replicate hx];omega) (fun j _=>by simp[List.getD_eq_getElem?_getD,List.getElem?_replicate];split <;> rfl)
 refine⟨out,h1,h2,?_,?_⟩
 ·rw[h3,Xt];simp
 have hmk:0≤i64.wrap ((xa.length:Int)+(bs.length:Int))∧i64.wrap ((xa.length:Int)+(bs.length:Int))≤1048576:=by rw[en];omega
 have hl:Za Yir (.loop Lv) (F9 xa.length (lm xa) bs.length (lm bs) (Int.toNat (i64.wrap ((xa.length:Int)+(bs.length:Int)))) (Qv [.int .u32 0] (Int.toNat (i64.wrap ((xa.length:Int)+(bs.length:Int))))) 0) (.exit 0) (F9 xa.length (lm xa) bs.length (lm bs) (Int.toNat (i64.wrap ((xa.length:Int)+(bs.length:Int)))) (lm out) (xa.length:Int)):=by
  rw[eN,Ue];exact h4
 have:=Zd.of_bodyW (prog:=Yir) (f:=141) (args:=[.sl xa.length (lm xa), .sl bs.length (lm bs)]) (r := .fresh 1 (Int.toNat (i64.wrap ((xa.length:Int)+(bs.length:Int)))) (lm out)) (fn:=Zgb) (s:=(.val (.sl xa.length (lm xa))::(.val (.sl bs.length (lm bs))::(dds 2 (.own 1 (Int.toNat (i64.wrap ((xa.length:Int)+(bs.length:Int)))) (lm out)::(dds 1 (.val (.int .i64 (xa.length:Int))::(dds 59 [])))))))) (ex := .ret) rfl rfl
  (Za.seq (Za.script (t:=(.val (.sl xa.length (lm xa))::(.val (.sl bs.length (lm bs))::(dds 2 (.own 1 0 []::(dds 61 [])))))) (ex := .norm) (ps:=[]) J9 300 [] [0,1,4] (by kernel_rfl) trivial)
  (Za.seq (Za.script (t:=(.val (.sl xa.length (lm xa))::(.val (.sl bs.length (lm bs))::(dds 2 (.own 1 0 []::(.own 1 (Int.toNat (i64.wrap ((xa.length:Int)+(bs.length:Int)))) (Qv [.int .u32 0] (Int.toNat (i64.wrap ((xa.length:Int)+(bs.length:Int)))))::(dds 3 (.val (.sl xa.length (lm xa))::(.val (.int .i64 (xa.length:Int))::(.val (.sl bs.length (lm bs))::(.val (.int .i64 (bs.length:Int))::(.val (.int .i64 (i64.wrap ((xa.length:Int)+(bs.length:Int))))::(dds 52 []))))))))))))) (ex := .norm) (ps:=[0≤(i64.wrap ((xa.length:Int)+(bs.length:Int)))∧(i64.wrap ((xa.length:Int)+(bs.length:Int)))≤1048576]) J9 300 [] [0,1,4,5,9,10,11,12,13] (by kernel_rfl) ⟨hmk,trivial⟩)
  (Za.seq (Za.seq (Za.script (t:=(.val (.sl xa.length (lm xa))::(.val (.sl bs.length (lm bs))::(dds 2 (.own 1 0 []::(.own 1 (Int.toNat (i64.wrap ((xa.length:Int)+(bs.length:Int)))) (Qv [.int .u32 0] (Int.toNat (i64.wrap ((xa.length:Int)+(bs.length:Int)))))::(.val (.int .i64 0)::(dds 59 [])))))))) (ex := .norm) (ps:=[]) J9 300 [] [0,1,4,5,6] (by kernel_rfl) trivial)
  (Za.block hl))
  (Za.script (t:=(.val (.sl xa.length (lm xa))::(.val (.sl bs.length (lm bs))::(dds 2 (.own 1 (Int.toNat (i64.wrap ((xa.length:Int)+(bs.length:Int)))) (lm out)::(dds 1 (.val (.int .i64 (xa.length:Int))::(dds 59 [])))))))) (ex := .ret) (ps:=[]) J9 300 [] [0,1,4,6] (by kernel_rfl) trivial)))) (by intro i e;cases e) rfl
 rw[eN,← h1] at this
 exact this
def TBC:Js:=TBB
theorem Qf:Qt Yir TBC:=J9
end Go.Proofs.Ythnnfemologhfaa

namespace Go.Ai
open Go.IntKind (i64 u64 u32)
theorem Qs:∀ (xs:List Int) (i:Nat),Zn (xs.drop i)=xs.getD i 0+4294967296*Zn (xs.drop (i+1))
 | [],i=>by simp[Zn]
 | x::xs,0=>by simp[Zn]
 | x::xs,i+1=>by
  have:=Qs xs i
  simpa using this
theorem Qk {xs:List Int} {i j:Nat} {v:Int} (h:i ≠ j):(xs.set i v).getD j 0=xs.getD j 0:=by
 simp only[List.getD_eq_getElem?_getD,List.getElem?_set_ne h]
theorem Qi {xs:List Int} {i:Nat} (h:xs.length≤i):xs.getD i 0=0:=by
 simp[List.getD_eq_getElem?_getD,List.getElem?_eq_none h]
theorem J3 {xs:List Int} {i:Nat} (h:xs.length≤i):Zn (xs.drop i)=0:=by
 rw[List.drop_eq_nil_of_le h];rfl
def G1 (xs ys:List Int):Nat→Nat→List Int→Int→List Int × Int
 | 0,_,o,c=>(o,c)
 | r+1,i,o,c=>G1 xs ys r (i+1) (o.set i ((xs.getD i 0+c+ys.getD i 0) % 4294967296)) ((xs.getD i 0+c+ys.getD i 0) / 4294967296)
theorem Zjj {xs ys:List Int} (hx:U32 xs) (hy:U32 ys) (hl:ys.length≤xs.length):∀ (r i:Nat) (o:List Int) (c:Int),r+i=xs.length→xs.length<o.length→U32 o→0≤c∧c≤1→(∀ j,i≤j→o.getD j 0=0) →
  (G1 xs ys r i o c).1.length=o.length∧U32 (G1 xs ys r i o c).1∧(0≤(G1 xs ys r i o c).2∧(G1 xs ys r i o c).2≤1) ∧
  Zn (G1 xs ys r i o c).1+4294967296^xs.length*(G1 xs ys r i o c).2=Zn o+4294967296^i*(c+Zn (xs.drop i)+Zn (ys.drop i)) ∧
  ∀ j,xs.length≤j→(G1 xs ys r i o c).1.getD j 0=0:=by
 intro r
 induction r with
 | zero =>
  intro i o c hi _ hu hc hz
  have hi':i=xs.length:=by omega
  subst hi'
  refine⟨rfl,hu,hc,?_,fun j hj=>hz j hj⟩
  rw[J3 (Nat.le_refl _),J3 hl]
  simp[G1]
 | succ r ih =>
  intro i o c hi hlo hu hc hz
  have h1:=Zw hx i
  have h2:=Zw hy i
  simp only[G1]
  have ex:=Qs xs i
  have ey:=Qs ys i
  have hoz:=hz i (Nat.le_refl _)
  generalize hW:xs.getD i 0+c+ys.getD i 0=W at *
  have hm:0≤W % 4294967296∧W % 4294967296<4294967296:=by omega
  obtain⟨g1,g2,g3,g4,g5⟩:=ih (i+1) (o.set i (W % 4294967296)) (W / 4294967296) (by omega) (by simpa using hlo) (Q6 hu hm) (by omega) (fun j hj=>by rw[Qk (by omega)];exact hz j (by omega))
  refine⟨by simpa using g1,g2,g3,?_,g5⟩
  rw[g4,J0 o i _ (by omega),ex,ey,hoz,Int.pow_succ]
  generalize (4294967296:Int)^i=p at *
  generalize Zn (xs.drop (i+1))=V at *
  generalize Zn (ys.drop (i+1))=U at *
  have e1:W=4294967296*(W / 4294967296)+W % 4294967296:=by omega
  have e2:c=W-xs.getD i 0-ys.getD i 0:=by omega
  rw[e2]
  generalize W / 4294967296=q at *
  generalize W % 4294967296=m at *
  generalize xs.getD i 0=a at *
  generalize ys.getD i 0=b at *
  subst e1
  grind
def G8 (xs ys:List Int):Nat→Nat→List Int→Int→List Int × Int
 | 0,_,o,c=>(o,c)
 | r+1,i,o,c=>G8 xs ys r (i+1) (o.set i ((xs.getD i 0-c-ys.getD i 0) % 4294967296)) (-((xs.getD i 0-c-ys.getD i 0) / 4294967296))
theorem Zhv {xs ys:List Int} (hx:U32 xs) (hy:U32 ys) (hl:ys.length≤xs.length):∀ (r i:Nat) (o:List Int) (c:Int),r+i=xs.length→xs.length≤o.length→U32 o→0≤c∧c≤1→(∀ j,i≤j→o.getD j 0=0) →
  (G8 xs ys r i o c).1.length=o.length∧U32 (G8 xs ys r i o c).1∧(0≤(G8 xs ys r i o c).2∧(G8 xs ys r i o c).2≤1) ∧
  Zn (G8 xs ys r i o c).1=Zn o+4294967296^i*(Zn (xs.drop i)-Zn (ys.drop i)-c)+4294967296^xs.length*(G8 xs ys r i o c).2:=by
 intro r
 induction r with
 | zero =>
  intro i o c hi _ hu hc hz
  have hi':i=xs.length:=by omega
  subst hi'
  refine⟨rfl,hu,hc,?_⟩
  rw[J3 (Nat.le_refl _),J3 hl]
  simp only[G8]
  generalize (4294967296:Int)^xs.length=p
  grind
 | succ r ih =>
  intro i o c hi hlo hu hc hz
  have h1:=Zw hx i
  have h2:=Zw hy i
  simp only[G8]
  have ex:=Qs xs i
  have ey:=Qs ys i
  have hoz:=hz i (Nat.le_refl _)
  generalize hW:xs.getD i 0-c-ys.getD i 0=W at *
  have hm:0≤W % 4294967296∧W % 4294967296<4294967296:=by omega
  obtain⟨g1,g2,g3,g4⟩:=ih (i+1) (o.set i (W % 4294967296)) (-(W / 4294967296)) (by omega) (by simpa using hlo) (Q6 hu hm) (by omega) (fun j hj=>by rw[Qk (by omega)];exact hz j (by omega))
  refine⟨by simpa using g1,g2,g3,?_⟩
  rw[g4,J0 o i _ (by omega),ex,ey,hoz,Int.pow_succ]
  generalize (4294967296:Int)^i=p at *
  generalize Zn (xs.drop (i+1))=V at *
  generalize Zn (ys.drop (i+1))=U at *
  have e1:W=4294967296*(W / 4294967296)+W % 4294967296:=by omega
  have e2:c=xs.getD i 0-ys.getD i 0-W:=by omega
  rw[e2]
  generalize W / 4294967296=q at *
  generalize W % 4294967296=m at *
  generalize xs.getD i 0=a at *
  generalize ys.getD i 0=b at *
  subst e1
  grind
theorem J7 (n j:Nat):(List.replicate n (0:Int)).getD j 0=0:=by
 simp[List.getD_eq_getElem?_getD,List.getElem?_replicate];split <;> rfl
theorem Xy (n:Nat):U32 (List.replicate n 0):=fun x hx=>by rw [List.eq_of_mem_replicate hx];omega
theorem Zeu {xs ys:List Int} (hx:U32 xs) (hy:U32 ys) (hl:ys.length≤xs.length) (o:List Int) (c:Int) (e:G1 xs ys xs.length 0 (List.replicate (xs.length+1) 0) 0=(o,c)) :
  o.length=xs.length+1∧U32 o∧(0≤c∧c≤1)∧U32 (o.set xs.length c)∧Zn (o.set xs.length c)=Zn xs+Zn ys:=by
 obtain⟨g1,g2,g3,g4,g5⟩:=Zjj hx hy hl xs.length 0 (List.replicate (xs.length+1) 0) 0 (by omega) (by simp) (Xy _) (by omega) (fun j _=>J7 _ j)
 rw[e] at g1 g2 g3 g4 g5
 dsimp only at g1 g2 g3 g4 g5
 have hlo:o.length=xs.length+1:=by simpa using g1
 refine⟨hlo,g2,g3,Q6 g2 (by omega),?_⟩
 rw[J0 o _ _ (by omega),g5 _ (Nat.le_refl _),Int.sub_zero,g4,Xt]
 simp
theorem Zca {xs ys:List Int} (hx:U32 xs) (hy:U32 ys) (hl:ys.length≤xs.length) (hv:Zn ys≤Zn xs) (o:List Int) (c:Int) (e:G8 xs ys xs.length 0 (List.replicate xs.length 0) 0=(o,c)) :
  o.length=xs.length∧U32 o∧Zn o=Zn xs-Zn ys:=by
 obtain⟨g1,g2,g3,g4⟩:=Zhv hx hy hl xs.length 0 (List.replicate xs.length 0) 0 (by omega) (by simp) (Xy _) (by omega) (fun j _=>J7 _ j)
 rw[e] at g1 g2 g3 g4
 dsimp only at g1 g2 g3 g4
 have hlo:o.length=xs.length:=by simpa using g1
 refine⟨hlo,g2,?_⟩
 rw[Xt] at g4
 simp at g4
 have h1:=Ul g2
 rw[hlo] at h1
 have hp:=Jv xs.length
 rcases (show c=0∨c=1 by omega) with h | h
 ·rw[g4,h];simp
 ·rw[h,Int.mul_one] at g4;omega
end Go.Ai

namespace Go.Ai
open Go.IntKind (i64 u64 u32)
abbrev Rn:=Bool × List Int
def Zt (r:Rn):Int:=rv r.1 r.2
def cn (n:Int):Rn:=(decide (n<0),Zb n.natAbs)
def pc (rs:List Rn):List AV:=rs.flatMap fun r=>[.bool r.1, .sl r.2.length (lm r.2)]
def Zl (rs:List Rn):List Int:=rs.map Zt
def pk (ps:List Int):List AV:=pc (ps.map cn)
def z0:Rn:=(false,[])
def J4 (K:Nat) (r:Rn):Prop:=U32 r.2∧r.2.length≤K
def Z5 (r:Rn):AV := .agg [.bool r.1, .sl r.2.length (lm r.2)]
theorem Qe (n:Int):Zt (cn n)=n:=Ho n
theorem Zcd:Zt z0=0:=rfl
theorem Qn (ps:List Int):Zl (ps.map cn)=ps:=by
 unfold Zl
 rw[List.map_map]
 have:(Zt ∘ cn)=id:=funext Qe
 rw[this,List.map_id]
theorem Jq {k:Nat} {n:Int} (h:Jh k n):J4 k (cn n):=⟨Jr _,h.len⟩
theorem Px (k:Nat):J4 k z0:=⟨fun x hx=>(by cases hx),Nat.zero_le _⟩
theorem J4.mono {j k:Nat} {r:Rn} (h:J4 j r) (hk:j≤k):J4 k r:=⟨h.1,Nat.le_trans h.2 hk⟩
theorem J4.fits {k:Nat} {r:Rn} (h:J4 k r):Jh k (Zt r):=(Pc h.1).mono h.2
theorem Mn (rs:List Rn):(pc rs).length=rs.length*2:=by
 induction rs with
 | nil=>rfl
 | cons r rs ih=>simp only[pc,List.flatMap_cons,List.length_append,List.length_cons,List.length_nil] at ih ⊢;omega
theorem Bn (r:Rn) (rs:List Rn):pc (r::rs) = .bool r.1 :: .sl r.2.length (lm r.2)::pc rs:=rfl
theorem Bo (rs ss:List Rn):pc (rs++ss)=pc rs++pc ss:=by simp [pc]
theorem Pn:∀ (i:Nat) (rs:List Rn),(pc rs).drop (i*2)=pc (rs.drop i)
 | 0,rs=>by simp
 | i+1,[]=>by simp[pc]
 | i+1,r::rs=>by
  rw[Bn,Nat.add_mul,Nat.one_mul]
  show (pc rs).drop (i*2)=_
  rw[Pn i rs];rfl
theorem Zcy:∀ (i:Nat) (rs:List Rn),(pc rs).take (i*2)=pc (rs.take i)
 | 0,rs=>by simp[pc]
 | i+1,[]=>by simp[pc]
 | i+1,r::rs=>by
  rw[Bn,Nat.add_mul,Nat.one_mul]
  show _::_::(pc rs).take (i*2)=_
  rw[Zcy i rs];rfl
theorem Bd {rs:List Rn} {i:Nat} (h:i<rs.length):Zx (List.drop (i*2) (pc rs)) 0 2 false=some (Z5 (rs.getD i z0)):=by
 rw[Pn,List.drop_eq_getElem_cons h,Bn]
 simp[Zx,Z5,List.getD_eq_getElem?_getD,List.getElem?_eq_getElem h]
theorem own_pc {rs:List Rn} {i:Nat} (h:i<rs.length):Zx (pc rs) (i*2) 2 false=some (Z5 (rs.getD i z0)):=by
 have h1:=Bd h
 have hl:=Mn rs
 simp only[Zx,Bool.false_eq_true,if_false,Nat.zero_add,List.drop_zero,List.length_drop] at h1 ⊢
 rw[if_pos (by omega)] at h1
 rw[if_pos (by omega)]
 exact h1
theorem Zdk {rs:List Rn} {i:Nat} {r:Rn} (h:i<rs.length):X1 (pc rs) (i*2) [.bool r.1, .sl r.2.length (lm r.2)]=some (pc (rs.set i r)):=by
 have hl:=Mn rs
 simp only[X1,List.length_cons,List.length_nil]
 rw[if_pos (by omega)]
 congr 1
 have hs:rs.set i r=rs.take i++r::rs.drop (i+1):=by rw[List.set_eq_take_append_cons_drop,if_pos h]
 rw[hs,Bo,Bn,Zcy]
 have:(pc rs).drop (i*2+(0+1+1))=pc (rs.drop (i+1)):=by rw[← Pn];congr 1;omega
 simp only[Nat.zero_add] at this
 rw[this]
 simp
theorem E8 (n:Nat):Qv [.bool false, .sl 0 []] n=pc (List.replicate n z0):=by
 induction n with
 | zero=>rfl
 | succ n ih=>rw[List.replicate_succ,Bn,← ih];rfl
theorem Znb (rs:List Rn):List.all (pc rs) (fun c => !isI c)=true:=by
 rw[List.all_eq_true]
 intro c hc
 simp only[pc,List.mem_flatMap,List.mem_cons,List.not_mem_nil,or_false] at hc
 obtain⟨r,_,rfl | rfl⟩:=hc <;> rfl
theorem Zoj (xs:List Int):List.all (lm xs) isI=true:=by
 rw[List.all_eq_true]
 intro c hc
 simp only[lm,List.mem_map] at hc
 obtain⟨x,_,rfl⟩:=hc
 rfl
theorem F2 (n:Int):Uv (Zp n)=true:=by
 simp only[Zp,Uv,List.all_cons,Gt,Zoj,List.all_nil,Bool.and_self]
theorem Z3 (rs:List Rn):(Zl rs).length=rs.length:=by simp [Zl]
theorem Q8 (rs:List Rn) (i:Nat):(Zl rs).getD i 0=Zt (rs.getD i z0):=by
 simp only[Zl,List.getD_eq_getElem?_getD,List.getElem?_map]
 cases rs[i]? <;> rfl
theorem Zho (rs:List Rn) (i:Nat) (r:Rn):Zl (rs.set i r)=(Zl rs).set i (Zt r):=by simp [Zl,List.map_set]
theorem Tv (n:Nat):Zl (List.replicate n z0)=List.replicate n 0:=by simp [Zl,Zcd]
theorem Qb {K:Nat} {rs:List Rn} (h:∀ r∈rs,J4 K r) (i:Nat):J4 K (rs.getD i z0):=by
 rw[List.getD_eq_getElem?_getD]
 cases e:rs[i]? with
 | none=>exact Px K
 | some r=>exact h r (List.mem_of_getElem? e)
theorem Zi1 {K:Nat} {rs:List Rn} (h:∀ r∈rs,J4 K r) {i:Nat} {r:Rn} (hr:J4 K r):∀ x∈rs.set i r,J4 K x:=by
 intro x hx
 rcases List.mem_or_eq_of_mem_set hx with g | g
 ·exact h x g
 ·rw[g];exact hr
theorem Ei (K n:Nat):∀ r∈List.replicate n z0,J4 K r:=fun r hr=>by rw [List.eq_of_mem_replicate hr];exact Px K
theorem Td {k:Nat} {ps:List Int} (h:∀ x∈ps,Jh k x):∀ r∈ps.map cn,J4 k r:=fun r hr=>by
 obtain⟨x,hx,rfl⟩:=List.mem_map.1 hr
 exact Jq (h x hx)
theorem X2 {k:Nat} {rs:List Rn} (h:∀ r∈rs,J4 k r):∀ x∈Zl rs,Jh k x:=fun x hx=>by
 obtain⟨r,hr,rfl⟩:=List.mem_map.1 hx
 exact (h r hr).fits
theorem Sd {xs ys:List Int} (h:∀ i,xs.getD i 0=ys.getD i 0):∀ n,Zv xs n=Zv ys n:=by
 intro n
 induction n with
 | zero=>rfl
 | succ n ih=>simp only[Zv,h n,ih]
theorem N7 (xs:List Int):∀ d,Zv xs (xs.length+d)=Zv xs xs.length:=by
 intro d
 induction d with
 | zero=>rfl
 | succ d ih =>
  rw[← Nat.add_assoc]
  simp only[Zv]
  rw[Qi (by omega),if_pos rfl,ih]
theorem Jg (xs:List Int) (i:Nat):(Ze xs).getD i 0=xs.getD i 0:=by
 unfold Ze
 rcases Nat.lt_or_ge i (Zv xs xs.length) with h | h
 ·simp only[List.getD_eq_getElem?_getD,List.getElem?_take,if_pos h]
 ·have e:(xs.take (Zv xs xs.length)).getD i 0=0:=Qi (by simp;omega)
  rw[e]
  rcases Nat.lt_or_ge i xs.length with h2 | h2
  ·exact (D4 xs xs.length i h h2).symm
  ·exact (Qi h2).symm
theorem K1 {xs ys:List Int} (hl:xs.length=ys.length) (h:∀ i,xs.getD i 0=ys.getD i 0):xs=ys:=by
 apply List.ext_getElem hl
 intro i h1 h2
 have:=h i
 simpa [List.getD_eq_getElem?_getD,List.getElem?_eq_getElem h1,List.getElem?_eq_getElem h2] using this
theorem Kw {xs ys:List Int} (h:∀ i,xs.getD i 0=ys.getD i 0):Ze xs=Ze ys:=by
 have hlen:(Ze xs).length=(Ze ys).length:=by
  have h1:∀ zs:List Int,(Ze zs).length=Zv zs zs.length:=fun zs=>by have:=We zs zs.length;simp[Ze];omega
  rw[h1,h1]
  rcases Nat.le_total xs.length ys.length with g | g
  ·have:=N7 xs (ys.length-xs.length)
   rw[show xs.length+(ys.length-xs.length)=ys.length by omega] at this
   rw[← this,Sd h]
  ·have:=N7 ys (xs.length-ys.length)
   rw[show ys.length+(xs.length-ys.length)=xs.length by omega] at this
   rw[← this,Sd h]
 refine K1 hlen fun i => ?_
 rw[Jg,Jg,h i]
theorem Un (xs:List Int):(Ze xs).length=Zv xs xs.length:=by have:=We xs xs.length;simp [Ze];omega
theorem Sy {xs:List Int} {x:Int} (h:x∈Ze xs):x∈xs:=List.mem_of_mem_take h
theorem D3 (xs:List Int):Ze (Ze xs)=Ze xs:=Kw (Jg xs)
def Zc:List Int→Int→Int
 | [],_=>0
 | p::ps,x=>p+x*Zc ps x
theorem A8 {xs:List Int} (h:∀ i,xs.getD i 0=0) (x:Int):Zc xs x=0:=by
 induction xs with
 | nil=>rfl
 | cons p ps ih =>
  have h0:=h 0
  simp at h0
  have:=ih (fun i=>by simpa using h (i+1))
  simp[Zc,h0,this]
theorem U1:∀ {xs ys:List Int},(∀ i,xs.getD i 0=ys.getD i 0)→∀ x,Zc xs x=Zc ys x
 | [],ys,h,x=>(A8 (fun i=>(h i).symm) x).symm
 | p::ps,[],h,x=>A8 (fun i=>h i) x
 | p::ps,q::qs,h,x=>by
  have h0:=h 0
  simp at h0
  simp only[Zc,h0]
  rw[U1 (fun i=>by simpa using h (i+1)) x]
theorem Vc (xs:List Int) (x:Int):Zc (Ze xs) x=Zc xs x:=U1 (Jg xs) x
def Vl (g:Nat→Rn) (i r:Nat):List Rn:=(List.range i).map g++List.replicate r z0
theorem Gu (g:Nat→Rn) (i r:Nat):(Vl g i r).length=i+r:=by simp [Vl]
theorem B5 (g:Nat→Rn) (r:Nat):Vl g 0 r=List.replicate r z0:=by simp [Vl]
theorem B6 (g:Nat→Rn) (i:Nat):Vl g i 0=(List.range i).map g:=by simp [Vl]
theorem Ek (g:Nat→Rn) (i r:Nat):(Vl g i (r+1)).set i (g i)=Vl g (i+1) r:=by
 unfold Vl
 rw[List.set_append_right _ _ (by simp),List.range_succ,List.map_append,List.replicate_succ]
 simp
theorem A0 (g:Nat→Rn) (n i:Nat):(Zl ((List.range n).map g)).getD i 0=if i<n then Zt (g i) else 0:=by
 rw[Q8,List.getD_eq_getElem?_getD]
 by_cases h:i<n
 ·simp[h]
 ·simp[h,Zcd]
theorem E9 (xs:List Int):(List.range xs.length).map (fun i=>cn (xs.getD i 0))=xs.map cn:=by
 apply List.ext_getElem (by simp)
 intro i h1 h2
 have h3:i<xs.length:=by simpa using h2
 simp[List.getD_eq_getElem?_getD,List.getElem?_eq_getElem h3]
theorem Zdw {K:Nat} {g:Nat→Rn} {n:Nat} (h:∀ i,i<n→J4 K (g i)):∀ r∈(List.range n).map g,J4 K r:=fun r hr=>by
 obtain⟨i,hi,rfl⟩:=List.mem_map.1 hr
 exact h i (List.mem_range.1 hi)
theorem Wc (k:Nat):Jh k 0:=by unfold Jh;simp;exact Nat.pow_pos (by decide)
theorem Mt {k:Nat} {xs:List Int} (h:∀ x∈xs,Jh k x) (i:Nat):Jh k (xs.getD i 0):=by
 rw[List.getD_eq_getElem?_getD]
 cases e:xs[i]? with
 | none=>exact Wc k
 | some x=>exact h x (List.mem_of_getElem? e)
def Hr (ps qs:List Int):List Int:=Ze ((List.range (max ps.length qs.length)).map fun i=>ps.getD i 0+qs.getD i 0)
def X4 (ps:List Int):List Int:=ps.map fun x => -x
theorem Xn (ps qs:List Int) (i:Nat):(Hr ps qs).getD i 0=ps.getD i 0+qs.getD i 0:=by
 unfold Hr
 rw[Jg,List.getD_eq_getElem?_getD]
 by_cases h:i<max ps.length qs.length
 ·simp[h]
 ·have h1:ps.length≤i:=by omega
  have h2:qs.length≤i:=by omega
  rw[Qi h1,Qi h2]
  simp[h]
theorem Wb (ps:List Int) (i:Nat):(X4 ps).getD i 0 = -(ps.getD i 0):=by
 unfold X4
 simp only[List.getD_eq_getElem?_getD,List.getElem?_map]
 cases ps[i]? <;> simp
theorem Zc2 (ps qs:List Int):Ze (Hr ps qs)=Hr ps qs:=D3 _
theorem Fe (xs:List Int) (x:Int):Zc xs x=xs.getD 0 0+x*Zc (xs.drop 1) x:=by
 cases xs <;> simp[Zc]
theorem As:∀ (n:Nat) (us bs cs:List Int),us.length≤n→bs.length≤n→cs.length≤n→(∀ i,cs.getD i 0=us.getD i 0+bs.getD i 0)→∀ x,Zc cs x=Zc us x+Zc bs x:=by
 intro n
 induction n with
 | zero =>
  intro us bs cs h1 h2 h3 _ x
  rw[List.eq_nil_of_length_eq_zero (by omega:us.length=0),List.eq_nil_of_length_eq_zero (by omega:bs.length=0),List.eq_nil_of_length_eq_zero (by omega:cs.length=0)]
  rfl
 | succ n ih =>
  intro us bs cs h1 h2 h3 h x
  rw[Fe us,Fe bs,Fe cs,h 0,ih (us.drop 1) (bs.drop 1) (cs.drop 1) (by simp;omega) (by simp;omega) (by simp;omega) (fun i=>by
   have:=h (i+1)
   simpa [List.getD_eq_getElem?_getD,Nat.add_comm] using this) x]
  rw[Int.mul_add]
  omega
theorem Z6 (ps qs:List Int) (x:Int):Zc (Hr ps qs) x=Zc ps x+Zc qs x :=
 As (max (max ps.length qs.length) (Hr ps qs).length) ps qs _ (by omega) (by omega) (by omega) (Xn ps qs) x
theorem V4 (ps:List Int) (x:Int):Zc (X4 ps) x = -Zc ps x:=by
 induction ps with
 | nil=>rfl
 | cons p ps ih =>
  have:X4 (p::ps) = -p::X4 ps:=rfl
  rw[this]
  simp only[Zc,ih]
  rw[Int.mul_neg]
  omega
def vp (rs : List Rn) : Reg := .val (.sl rs.length (pc rs))
def bR (r : Rn) : Reg := .box [.bool r.1, .sl r.2.length (lm r.2)]
def bN (n : Int) : Reg := .box [.bool (decide (n < 0)), .sl ((Zb (Int.natAbs n)).length) (lm (Zb (Int.natAbs n)))]
end Go.Ai

namespace Go.Ai
open Go.IntKind (i64 u64 u32)
section
variable {prog:Nat→Option IFunc}
theorem Qu.cond_t {c:Opd} {a b:ICode} {s t:Zk} {ex:Ex} (h:c.av s=some (.bool true)) (h1:Qu prog a s ex t):Qu prog (.cond c a b) s ex t:=by
 obtain⟨n,h1⟩:=h1
 refine⟨n+1,?_⟩
 have e1:=Vm (Ui prog (show n≤n+1 by omega)) (Nat.le_refl n) h1
 simp only[evC,Df,h,e1]
theorem Qu.cond_f {c:Opd} {a b:ICode} {s t:Zk} {ex:Ex} (h:c.av s=some (.bool false)) (h1:Qu prog b s ex t):Qu prog (.cond c a b) s ex t:=by
 obtain⟨n,h1⟩:=h1
 refine⟨n+1,?_⟩
 have e1:=Vm (Ui prog (show n≤n+1 by omega)) (Nat.le_refl n) h1
 simp only[evC,Df,h,e1]
theorem Za.cond_t {c:Opd} {a b:ICode} {s t:Zk} {ex:Ex} {x:Bool} (h:c.av s=some (.bool x)) (hx:x=true) (h1:Za prog a s ex t):Za prog (.cond c a b) s ex t:=by
 subst hx
 obtain⟨u,k1,k2⟩:=h1
 exact⟨u,Qu.cond_t h k1,k2⟩
theorem Za.cond_f {c:Opd} {a b:ICode} {s t:Zk} {ex:Ex} {x:Bool} (h:c.av s=some (.bool x)) (hx:x=false) (h1:Za prog b s ex t):Za prog (.cond c a b) s ex t:=by
 subst hx
 obtain⟨u,k1,k2⟩:=h1
 exact⟨u,Qu.cond_f h k1,k2⟩
theorem Za.block_out {id:Nat} {c:ICode} {s t:Zk} {i:Nat} (h:Za prog c s (.exit i) t) (hi:i ≠ id):Za prog (.block id c) s (.exit i) t:=by
 obtain⟨u,k1,k2⟩:=h
 exact⟨u,Qu.block_out k1 hi,k2⟩
theorem Za.up {c:ICode} {ex:Ex} {fin:Zk} (st:Nat→Zk) (n:Nat) (hex:ex ≠ .norm) (step:∀ i,i<n→Za prog c (st i) .norm (st (i+1))) (out:Za prog c (st n) ex fin):∀ i,i≤n→Za prog (.loop c) (st i) ex fin:=by
 have key:∀ r i,i+r=n→Za prog (.loop c) (st i) ex fin:=by
  intro r
  induction r with
  | zero =>
   intro i hi
   have:i=n:=by omega
   subst this
   exact Za.loop_out out hex
  | succ r ih =>
   intro i hi
   exact Za.loop (step i (by omega)) (ih (i+1) (by omega))
 intro i hi
 exact key (n-i) i (by omega)
theorem Za.to {c:ICode} {ex:Ex} {s t s' t':Zk} (h:Za prog c s ex t) (hs:s=s') (ht:t=t'):Za prog c s' ex t':=hs ▸ ht ▸ h
end
theorem Va {X:Int} {n:Nat} (h:0≤X∧X<(n:Int)):Int.toNat X<n:=by omega
theorem Jc {xs:List Int} {X:Int} (h:0≤X∧X<(xs.length:Int)):Zx (List.drop (Int.toNat X*1) (lm xs)) 0 1 true=some (.int .u32 (xs.getD (Int.toNat X) 0)):=Ju (Va h)
theorem S0 (ws:List Int) (l h:Nat):List.take ((h-l)*1) (List.drop (l*1) (lm ws))=lm ((ws.drop l).take (h-l)):=by
 simp[lm,List.map_take,List.map_drop]
theorem A1 {ws:List Int} {l h m:Nat} {X:Int} {a b:Bool} (hx:0≤X∧X<((h-l:Nat):Int)) (hl:l≤h∧h≤m∧m≤ws.length∧(a=true→b=true)):Zx (List.drop (Int.toNat X*1) (List.take ((h-l)*1) (List.drop (l*1) (lm ws)))) 0 1 true=some (.int .u32 (((ws.drop l).take (h-l)).getD (Int.toNat X) 0)):=by
 rw[S0];exact Ju (by have:=Va hx;simp;omega)
theorem Jn {xs:List Int} {n:Nat} (hl:xs.length=n) {X:Int} (h:0≤X∧X<(n:Int)):Zx (lm xs) (Int.toNat X*1) 1 true=some (.int .u32 (xs.getD (Int.toNat X) 0)):=Po (hl ▸ Va h)
theorem Xe {xs:List Int} {n:Nat} (hl:xs.length=n) {X:Int} (h:0≤X∧X<(n:Int)) {v:Int}:X1 (lm xs) (Int.toNat X*1) [.int .u32 v]=some (lm (xs.set (Int.toNat X) v)):=Wm (hl ▸ Va h)
theorem J1 {rs:List Rn} {X:Int} (h:0≤X∧X<(rs.length:Int)):Zx (List.drop (Int.toNat X*2) (pc rs)) 0 2 false=some (Z5 (rs.getD (Int.toNat X) z0)):=Bd (Va h)
theorem Vh {rs:List Rn} {n:Nat} (hl:rs.length=n) {X:Int} (h:0≤X∧X<(n:Int)):Zx (pc rs) (Int.toNat X*2) 2 false=some (Z5 (rs.getD (Int.toNat X) z0)):=own_pc (hl ▸ Va h)
theorem Wl {rs:List Rn} {n:Nat} (hl:rs.length=n) {X:Int} (h:0≤X∧X<(n:Int)) {r:Rn}:X1 (pc rs) (Int.toNat X*2) [.bool r.1, .sl r.2.length (lm r.2)]=some (pc (rs.set (Int.toNat X) r)):=Zdk (hl ▸ Va h)
def li (xs:List Int):List AV:=xs.map (AV.int .i64)
theorem li_get {xs:List Int} {i:Nat} (h:i<xs.length):(li xs)[i]?=some (.int .i64 (xs.getD i 0)):=by
 simp[li,List.getElem?_map,List.getElem?_eq_getElem h,List.getD_eq_getElem?_getD]
theorem Gf {xs:List Int} {X:Int} (h:0≤X∧X<(xs.length:Int)):Zx (List.drop (Int.toNat X*1) (li xs)) 0 1 true=some (.int .i64 (xs.getD (Int.toNat X) 0)):=by
 simp only[Zx,if_true,Nat.mul_one,List.getElem?_drop,Nat.add_zero]
 exact li_get (Va h)
def pp (ps:List (List Rn)):List AV:=ps.map fun rs => .sl rs.length (pc rs)
theorem pp_get {ps:List (List Rn)} {i:Nat} (h:i<ps.length):(pp ps)[i]?=some (.sl (ps.getD i []).length (pc (ps.getD i []))):=by
 simp[pp,List.getElem?_map,List.getElem?_eq_getElem h,List.getD_eq_getElem?_getD]
theorem Wf {ps:List (List Rn)} {X:Int} (h:0≤X∧X<(ps.length:Int)):Zx (List.drop (Int.toNat X*1) (pp ps)) 0 1 true=some (.sl (ps.getD (Int.toNat X) []).length (pc (ps.getD (Int.toNat X) []))):=by
 simp only[Zx,if_true,Nat.mul_one,List.getElem?_drop,Nat.add_zero]
 exact pp_get (Va h)
end Go.Ai

namespace Go.Ai
open Go.IntKind (i64 u64 u32)
theorem Mk (xs:List Int) (i:Nat) (v x:Int) (h:i<xs.length):Zc (xs.set i v) x=Zc xs x+x^i*(v-xs.getD i 0):=by
 induction xs generalizing i with
 | nil=>simp at h
 | cons p ps ih =>
  cases i with
  | zero=>simp only[List.set_cons_zero,Zc,Int.pow_zero,List.getD_cons_zero];omega
  | succ i =>
   simp only[List.set_cons_succ,Zc,List.getD_cons_succ]
   rw[ih i (by simpa using h),Int.pow_succ]
   generalize x^i=q
   generalize Zc ps x=y
   generalize ps.getD i 0=z
   grind
theorem Bl (n:Nat) (x:Int):Zc (List.replicate n 0) x=0:=by
 induction n with
 | zero=>rfl
 | succ n ih=>simp[List.replicate_succ,Zc,ih]
theorem pzero:∀ (d:List Int) (b:Int),(∀ x,b≤x→Zc d x=0)→∀ i,d.getD i 0=0
 | [],_,_,i=>by simp
 | c::d,b,h,i=>by
  have hc:c=0:=by
   have h1:=h (max b (c.natAbs+1)) (by omega)
   simp only[Zc] at h1
   have h2:(max b ((c.natAbs:Int)+1))∣c:=⟨-(Zc d (max b ((c.natAbs:Int)+1))),by rw[Int.mul_neg];omega⟩
   rcases Int.lt_trichotomy c 0 with g | g | g
   ·have:=Int.le_of_dvd (a:=max b ((c.natAbs:Int)+1)) (b := -c) (by omega) ((Int.dvd_neg).2 h2)
    omega
   ·exact g
   ·have:=Int.le_of_dvd (a:=max b ((c.natAbs:Int)+1)) (b:=c) (by omega) h2
    omega
  cases i with
  | zero=>simpa using hc
  | succ i =>
   have:=pzero d (max b 1) (fun x hx=>by
    have h1:=h x (by omega)
    simp only[Zc,hc,Int.zero_add] at h1
    rcases Int.mul_eq_zero.1 h1 with g | g
    ·omega
    ·exact g) i
   simpa using this
theorem Xu {p q:List Int} (h:∀ x,Zc p x=Zc q x) (i:Nat):p.getD i 0=q.getD i 0:=by
 have:=pzero (Hr p (X4 q)) 0 (fun x _=>by rw[Z6,V4,h x];omega) i
 rw[Xn,Wb] at this
 omega
theorem J5 {p q:List Int} (h:∀ x,Zc p x=Zc q x):Ze p=Ze q:=Kw (Xu h)
def Zha (p q:List Int):List Int:=Hr p (X4 q)
theorem X8 (p q:List Int) (x:Int):Zc (Zha p q) x=Zc p x-Zc q x:=by rw [Zha,Z6,V4];omega
theorem Zdx (p q:List Int) (i:Nat):(Zha p q).getD i 0=p.getD i 0-q.getD i 0:=by rw [Zha,Xn,Wb];omega
def Zu (a:Int) (q:List Int):List Int:=q.map fun x=>a*x
theorem Zh (a:Int) (q:List Int) (x:Int):Zc (Zu a q) x=a*Zc q x:=by
 induction q with
 | nil=>simp[Zu,Zc]
 | cons c q ih =>
  have:Zu a (c::q)=a*c::Zu a q:=rfl
  rw[this]
  simp only[Zc,ih]
  generalize Zc q x=y
  grind
theorem Z2 (a:Int) (q:List Int) (i:Nat):(Zu a q).getD i 0=a*q.getD i 0:=by
 unfold Zu
 simp only[List.getD_eq_getElem?_getD,List.getElem?_map]
 cases q[i]? <;> simp
def Jk:List Int→List Int→List Int
 | [],_=>[]
 | a::p,q=>Hr (Zu a q) (0::Jk p q)
theorem Zq (p q:List Int) (x:Int):Zc (Jk p q) x=Zc p x*Zc q x:=by
 induction p with
 | nil=>simp[Jk,Zc]
 | cons a p ih =>
  simp only[Jk,Z6,Zh,Zc,ih]
  generalize Zc q x=y
  generalize Zc p x=z
  grind
theorem V3 (p q:List Int):Ze (Jk p q)=Jk p q:=by
 cases p with
 | nil=>rfl
 | cons a p=>exact Zc2 _ _
theorem Nl {k:Nat} {p:List Int} (hp:∀ x∈p,Jh k x):∀ x∈Ze p,Jh k x:=fun x hx=>hp x (Sy hx)
theorem Zij (p q:List Int):(Hr p q).length≤max p.length q.length:=by
 have:=Qw ((List.range (max p.length q.length)).map fun i=>p.getD i 0+q.getD i 0)
 simpa [Hr] using this
theorem Xc (p:List Int):(X4 p).length=p.length:=by simp [X4]
theorem Kc (xs:List Int) (j:Nat) (x:Int):Zc (xs.take (j+1)) x=Zc (xs.take j) x+x^j*xs.getD j 0:=by
 induction xs generalizing j with
 | nil=>simp[Zc]
 | cons p ps ih =>
  cases j with
  | zero=>simp[Zc]
  | succ j =>
   simp only[List.take_succ_cons,Zc,List.getD_cons_succ,ih j,Int.pow_succ]
   generalize x^j=q
   generalize Zc (ps.take j) x=y
   generalize ps.getD j 0=z
   grind
def tIn (rs ss os:List Rn) (i:Nat):Nat→List Rn
 | 0=>os
 | j+1=>(tIn rs ss os i j).set (i+j) (cn (Zt ((tIn rs ss os i j).getD (i+j) z0)+Zt (rs.getD i z0)*Zt (ss.getD j z0)))
def Se (rs ss os:List Rn) (m:Nat):Nat→List Rn
 | 0=>os
 | i+1=>tIn rs ss (Se rs ss os m i) i m
theorem G7 (rs ss os:List Rn) (i j:Nat):(tIn rs ss os i j).length=os.length:=by
 induction j with
 | zero=>rfl
 | succ j ih=>simp only[tIn,List.length_set,ih]
theorem H0 (rs ss os:List Rn) (m i:Nat):(Se rs ss os m i).length=os.length:=by
 induction i with
 | zero=>rfl
 | succ i ih=>rw[Se,G7,ih]
theorem Zb8 (rs ss os:List Rn) (i j t:Nat) (h:i+j≤t):(tIn rs ss os i j).getD t z0=os.getD t z0:=by
 induction j with
 | zero=>rfl
 | succ j ih =>
  rw[tIn,List.getD_eq_getElem?_getD,List.getElem?_set_ne (by omega),← List.getD_eq_getElem?_getD]
  exact ih (by omega)
theorem Zht {K B:Nat} {rs ss os:List Rn} (hr:∀ r∈rs,J4 K r) (hs:∀ r∈ss,J4 K r) (ho:∀ r∈os,J4 B r) (hB:2*K≤B) (i j:Nat):∀ r∈tIn rs ss os i j,J4 (B+1) r:=by
 induction j with
 | zero=>exact fun r h=>(ho r h).mono (by omega)
 | succ j ih =>
  rw[tIn]
  refine Zi1 ih ?_
  rw[Zb8 _ _ _ _ _ _ (Nat.le_refl _)]
  exact Jq ((Qb ho _).fits.add (((Qb hr i).fits.mul (Qb hs j).fits).mono (by omega)))
theorem N8 {K:Nat} {rs ss os:List Rn} (hr:∀ r∈rs,J4 K r) (hs:∀ r∈ss,J4 K r) (ho:∀ r∈os,J4 (2*K) r) (m i:Nat):∀ r∈Se rs ss os m i,J4 (2*K+i) r:=by
 induction i with
 | zero=>exact ho
 | succ i ih=>exact Zht hr hs ih (by omega) i m
theorem Zhu (rs ss os:List Rn) (i:Nat) (x:Int):∀ j,i+j≤os.length→Zc (Zl (tIn rs ss os i j)) x=Zc (Zl os) x+x^i*(Zt (rs.getD i z0)*Zc ((Zl ss).take j) x):=by
 intro j
 induction j with
 | zero=>intro _;simp[tIn,Zc]
 | succ j ih =>
  intro h
  have h1:=ih (by omega)
  rw[tIn,Zho,Mk _ _ _ _ (by rw[Z3,G7];omega),h1,Qe,Q8,Kc,Q8,Int.pow_add]
  generalize x^i=p
  generalize x^j=q
  generalize Zc ((Zl ss).take j) x=y
  grind
theorem Zb7 (rs ss:List Rn) (m n:Nat) (x:Int):∀ i,i+m≤n+1→Zc (Zl (Se rs ss (List.replicate n z0) m i)) x=Zc ((Zl rs).take i) x*Zc ((Zl ss).take m) x:=by
 intro i
 induction i with
 | zero=>intro _;simp[Se,Tv,Bl,Zc]
 | succ i ih =>
  intro h
  rw[Se,Zhu _ _ _ _ _ _ (by rw[H0];simp;omega),ih (by omega),Kc,Q8]
  generalize x^i=p
  grind
theorem W9 {p q:List Int} (h:Zv q q.length=0):Jk p q=[]:=by
 have h1:Ze q=[]:=by rw[Ze,h];rfl
 rw[← V3]
 have:Ze (Jk p q)=Ze []:=J5 fun x=>by
  rw[Zq,← Vc q,h1];simp[Zc]
 rw[this];rfl
def hv:List Int→Int→Int→Int
 | [],_,_=>0
 | t::ts,x,d=>t*d^ts.length+x*hv ts x d
end Go.Ai

namespace Go.Proofs.Ythnnfemologhfaa
open Go.IntKind (i64 u64 u32)
open Go.Ai
set_option maxRecDepth 100000
theorem Zey (neg:Bool) (xs:List Int) (c1:((((Ze xs).length:Nat):Int)==0)=true) (n1:Zd Yir 125 [.sl xs.length (lm xs)] (.fresh 1 ((Ze xs).length) (lm (Ze xs)))):Zd Yir 81 [.agg [.bool neg, .sl xs.length (lm xs)]] (.int .i64 0):=Zd.go (fn:=Zti) Qf rfl 400 rfl [.r (.fresh 1 ((Ze xs).length) (lm (Ze xs))), .b true] (ac n1 (ac c1 a0))
theorem Zex (neg:Bool) (xs:List Int) (c1:((((Ze xs).length:Nat):Int)==0)=false) (c2:(neg)=true) (n1:Zd Yir 125 [.sl xs.length (lm xs)] (.fresh 1 ((Ze xs).length) (lm (Ze xs)))):Zd Yir 81 [.agg [.bool neg, .sl xs.length (lm xs)]] (.int .i64 (-1)):=Zd.go (fn:=Zti) Qf rfl 400 rfl [.r (.fresh 1 ((Ze xs).length) (lm (Ze xs))), .b false, .b true] (ac n1 (ac c1 (ac c2 a0)))
theorem Zew (neg:Bool) (xs:List Int) (c1:((((Ze xs).length:Nat):Int)==0)=false) (c2:(neg)=false) (n1:Zd Yir 125 [.sl xs.length (lm xs)] (.fresh 1 ((Ze xs).length) (lm (Ze xs)))):Zd Yir 81 [.agg [.bool neg, .sl xs.length (lm xs)]] (.int .i64 1):=Zd.go (fn:=Zti) Qf rfl 400 rfl [.r (.fresh 1 ((Ze xs).length) (lm (Ze xs))), .b false, .b false] (ac n1 (ac c1 (ac c2 a0)))
theorem Yrun93 (neg:Bool) (xs:List Int) (v:Int) (n1:Zd Yir 106 [.bool neg, .sl xs.length (lm xs)] (F3 v)):Zd Yir 93 [.agg [.bool neg, .sl xs.length (lm xs)]] (Zp v):=Zd.go (fn:=Yi93) Qf rfl 400 rfl [.r (F3 v)] (ac n1 a0)
def Hm (xs:List Int) (ys:List Int) (n:Nat) (cs:List AV) (c:Int) (i:Int):Zk:=(.val (.sl xs.length (lm xs))::(.val (.sl ys.length (lm ys))::(dds 3 (.own 1 n cs::(.val (.int .u64 c)::(.val (.int .i64 i)::(dds 46 [])))))))
theorem Zq4 (xs:List Int) (ys:List Int) (n:Nat) (cs:List AV) (c:Int) (i:Int)  (c1:(decide (i<(xs.length:Int)))=true) (c2:(decide (i<(ys.length:Int)))=true) (n1:0≤i∧i<(xs.length:Int)) (n2:0≤i∧i<(ys.length:Int)) (n3:n+1≤1048576):Za Yir N2 (Hm xs ys n cs c i) .norm (Hm xs ys (n+1) (cs++([.int .u32 (u32.wrap (u64.wrap ((u64.wrap (c+(u64.wrap (xs.getD (Int.toNat i) 0))))+(u64.wrap (ys.getD (Int.toNat i) 0)))))]:List AV)) (Int.fdiv (u64.wrap ((u64.wrap (c+(u64.wrap (xs.getD (Int.toNat i) 0))))+(u64.wrap (ys.getD (Int.toNat i) 0)))) (2^(min (Int.toNat 32) (IntKind.bits .u64)))) (i64.wrap (i+1))):=(Za.go Qf 400 [.b true, .b true, .b true, .b true, .v (.int .u32 (xs.getD (Int.toNat i) 0)), .b true, .v (.int .u32 (ys.getD (Int.toNat i) 0))] [0,1,5,6,7] (ac c1 (ac (show true=true from rfl) (ac (show true=true from rfl) (ac c1 (ac n1 (ac (Jc n1) (ac c2 (ac n2 (ac (Jc n2) (ac (show List.length ([.int .u32 (u32.wrap (u64.wrap ((u64.wrap (c+(u64.wrap (xs.getD (Int.toNat i) 0))))+(u64.wrap (ys.getD (Int.toNat i) 0)))))]:List AV)=1*1 from rfl) (ac n3 (ac (show ¬ (32:Int)<0 from (by decide)) a0)))))))))))))
theorem Zq3 (xs:List Int) (ys:List Int) (n:Nat) (cs:List AV) (c:Int) (i:Int)  (c1:(decide (i<(xs.length:Int)))=true) (c2:(decide (i<(ys.length:Int)))=false) (n1:0≤i∧i<(xs.length:Int)) (n2:n+1≤1048576):Za Yir N2 (Hm xs ys n cs c i) .norm (Hm xs ys (n+1) (cs++([.int .u32 (u32.wrap (u64.wrap (c+(u64.wrap (xs.getD (Int.toNat i) 0)))))]:List AV)) (Int.fdiv (u64.wrap (c+(u64.wrap (xs.getD (Int.toNat i) 0)))) (2^(min (Int.toNat 32) (IntKind.bits .u64)))) (i64.wrap (i+1))):=(Za.go Qf 400 [.b true, .b true, .b true, .b true, .v (.int .u32 (xs.getD (Int.toNat i) 0)), .b false] [0,1,5,6,7] (ac c1 (ac (show true=true from rfl) (ac (show true=true from rfl) (ac c1 (ac n1 (ac (Jc n1) (ac c2 (ac (show List.length ([.int .u32 (u32.wrap (u64.wrap (c+(u64.wrap (xs.getD (Int.toNat i) 0)))))]:List AV)=1*1 from rfl) (ac n2 (ac (show ¬ (32:Int)<0 from (by decide)) a0)))))))))))
theorem Zq2 (xs:List Int) (ys:List Int) (n:Nat) (cs:List AV) (c:Int) (i:Int)  (c1:(decide (i<(xs.length:Int)))=false) (c2:(decide (i<(ys.length:Int)))=true) (n1:0≤i∧i<(ys.length:Int)) (n2:n+1≤1048576):Za Yir N2 (Hm xs ys n cs c i) .norm (Hm xs ys (n+1) (cs++([.int .u32 (u32.wrap (u64.wrap (c+(u64.wrap (ys.getD (Int.toNat i) 0)))))]:List AV)) (Int.fdiv (u64.wrap (c+(u64.wrap (ys.getD (Int.toNat i) 0)))) (2^(min (Int.toNat 32) (IntKind.bits .u64)))) (i64.wrap (i+1))):=(Za.go Qf 400 [.b false, .b true, .b true, .b false, .b true, .v (.int .u32 (ys.getD (Int.toNat i) 0))] [0,1,5,6,7] (ac c1 (ac c2 (ac (show true=true from rfl) (ac c1 (ac c2 (ac n1 (ac (Jc n1) (ac (show List.length ([.int .u32 (u32.wrap (u64.wrap (c+(u64.wrap (ys.getD (Int.toNat i) 0)))))]:List AV)=1*1 from rfl) (ac n2 (ac (show ¬ (32:Int)<0 from (by decide)) a0)))))))))))
theorem Zq1 (xs:List Int) (ys:List Int) (n:Nat) (cs:List AV) (c:Int) (i:Int)  (c1:(decide (i<(xs.length:Int)))=false) (c2:(decide (i<(ys.length:Int)))=false) (c3:(decide (c>0))=true) (n1:n+1≤1048576):Za Yir N2 (Hm xs ys n cs c i) .norm (Hm xs ys (n+1) (cs++([.int .u32 (u32.wrap c)]:List AV)) (Int.fdiv c (2^(min (Int.toNat 32) (IntKind.bits .u64)))) (i64.wrap (i+1))):=(Za.go Qf 400 [.b false, .b false, .b true, .b false, .b false] [0,1,5,6,7] (ac c1 (ac c2 (ac c3 (ac c1 (ac c2 (ac (show List.length ([.int .u32 (u32.wrap c)]:List AV)=1*1 from rfl) (ac n1 (ac (show ¬ (32:Int)<0 from (by decide)) a0)))))))))
theorem Zf2 (xs:List Int) (ys:List Int) (n:Nat) (cs:List AV) (c:Int) (i:Int)  (c1:(decide (i<(xs.length:Int)))=false) (c2:(decide (i<(ys.length:Int)))=false) (c3:(decide (c>0))=false):Za Yir N2 (Hm xs ys n cs c i) (.exit 0) (Hm xs ys n cs c i):=(Za.go Qf 400 [.b false, .b false, .b false] [0,1,5,6,7] (ac c1 (ac c2 (ac c3 a0))))
theorem Zpe (xs ys:List Int) (n:Nat) (cs:List AV) (c i:Int) (hl1:Za Yir (.loop N2) (Hm xs ys 0 ([]:List AV) 0 0) (.exit 0) (Hm xs ys n cs c i)):Zd Yir 138 [.sl xs.length (lm xs), .sl ys.length (lm ys)] (.fresh 1 n cs):=Zd.of_bodyW (fn:=Zgd) (s:=(dds 1 (.val (.sl ys.length (lm ys))::(dds 2 (.own 1 n cs::(dds 49 [])))))) (ex := .ret) rfl rfl (Za.seq (Za.go (t:=(vl xs::(vl ys::(dds 2 (.own 1 0 []::(dds 49 [])))))) Qf 400 [] [0,1,4] a0) (Za.seq (Za.go (t:=(vl xs::(vl ys::(dds 2 (.own 1 0 []::(.own 1 0 []::(dds 48 []))))))) Qf 400 [] [0,1,4,5] a0) (Za.seq (Za.go (t:=(vl xs::(vl ys::(dds 2 (.own 1 0 []::(.own 1 0 []::(.val (.int .u64 0)::(dds 47 [])))))))) Qf 400 [] [0,1,4,5,6] a0) (Za.seq (Za.seq (Za.go Qf 400 [] [0,1,5,6,7] a0) (Za.block hl1)) (Za.go Qf 400 [] [1,4] a0))))) (by intro i e;cases e) rfl
def Di (xs:List Int) (ys:List Int) (n:Nat) (cs:List AV) (c:Int) (i:Int):Zk:=(.val (.sl xs.length (lm xs))::(.val (.sl ys.length (lm ys))::(dds 3 (.own 1 n cs::(.val (.int .u64 c)::(.val (.int .i64 i)::(dds 34 [])))))))
theorem Zqw (xs:List Int) (ys:List Int) (n:Nat) (cs:List AV) (c:Int) (i:Int)  (c1:(decide (i<(xs.length:Int)))=true) (c2:(decide (i<(ys.length:Int)))=true) (n1:0≤i∧i<(ys.length:Int)) (n2:0≤i∧i<(xs.length:Int)) (n3:n+1≤1048576):Za Yir Rz (Di xs ys n cs c i) .norm (Di xs ys (n+1) (cs++([.int .u32 (u32.wrap (u64.wrap ((u64.wrap ((u64.wrap (xs.getD (Int.toNat i) 0))-(u64.wrap (ys.getD (Int.toNat i) 0))))-c)))]:List AV)) (Int.fdiv (u64.wrap ((u64.wrap ((u64.wrap (xs.getD (Int.toNat i) 0))-(u64.wrap (ys.getD (Int.toNat i) 0))))-c)) (2^(min (Int.toNat 63) (IntKind.bits .u64)))) (i64.wrap (i+1))):=(Za.go Qf 400 [.b true, .b true, .v (.int .u32 (ys.getD (Int.toNat i) 0)), .v (.int .u32 (xs.getD (Int.toNat i) 0))] [0,1,5,6,7] (ac c1 (ac c2 (ac n1 (ac (Jc n1) (ac n2 (ac (Jc n2) (ac (show List.length ([.int .u32 (u32.wrap (u64.wrap ((u64.wrap ((u64.wrap (xs.getD (Int.toNat i) 0))-(u64.wrap (ys.getD (Int.toNat i) 0))))-c)))]:List AV)=1*1 from rfl) (ac n3 (ac (show ¬ (63:Int)<0 from (by decide)) a0))))))))))
theorem Zqv (xs:List Int) (ys:List Int) (n:Nat) (cs:List AV) (c:Int) (i:Int)  (c1:(decide (i<(xs.length:Int)))=true) (c2:(decide (i<(ys.length:Int)))=false) (n1:0≤i∧i<(xs.length:Int)) (n2:n+1≤1048576):Za Yir Rz (Di xs ys n cs c i) .norm (Di xs ys (n+1) (cs++([.int .u32 (u32.wrap (u64.wrap ((u64.wrap ((u64.wrap (xs.getD (Int.toNat i) 0))-0))-c)))]:List AV)) (Int.fdiv (u64.wrap ((u64.wrap ((u64.wrap (xs.getD (Int.toNat i) 0))-0))-c)) (2^(min (Int.toNat 63) (IntKind.bits .u64)))) (i64.wrap (i+1))):=(Za.go Qf 400 [.b true, .b false, .v (.int .u32 (xs.getD (Int.toNat i) 0))] [0,1,5,6,7] (ac c1 (ac c2 (ac n1 (ac (Jc n1) (ac (show List.length ([.int .u32 (u32.wrap (u64.wrap ((u64.wrap ((u64.wrap (xs.getD (Int.toNat i) 0))-0))-c)))]:List AV)=1*1 from rfl) (ac n2 (ac (show ¬ (63:Int)<0 from (by decide)) a0))))))))
theorem Zqu (xs:List Int) (ys:List Int) (n:Nat) (cs:List AV) (c:Int) (i:Int)  (c1:(decide (i<(xs.length:Int)))=false):Za Yir Rz (Di xs ys n cs c i) (.exit 0) (Di xs ys n cs c i):=(Za.go Qf 400 [.b false] [0,1,5,6,7] (ac c1 a0))
theorem Zpd (xs ys:List Int) (n:Nat) (cs:List AV) (c i:Int) (hl1:Za Yir (.loop Rz) (Di xs ys 0 ([]:List AV) 0 0) (.exit 0) (Di xs ys n cs c i)):Zd Yir 140 [.sl xs.length (lm xs), .sl ys.length (lm ys)] (.fresh 1 n cs):=Zd.of_bodyW (fn:=Zgc) (s:=(dds 1 (.val (.sl ys.length (lm ys))::(dds 2 (.own 1 n cs::(dds 37 [])))))) (ex := .ret) rfl rfl (Za.seq (Za.go (t:=(vl xs::(vl ys::(dds 2 (.own 1 0 []::(dds 37 [])))))) Qf 400 [] [0,1,4] a0) (Za.seq (Za.go (t:=(vl xs::(vl ys::(dds 2 (.own 1 0 []::(.own 1 0 []::(dds 36 []))))))) Qf 400 [] [0,1,4,5] a0) (Za.seq (Za.go (t:=(vl xs::(vl ys::(dds 2 (.own 1 0 []::(.own 1 0 []::(.val (.int .u64 0)::(dds 35 [])))))))) Qf 400 [] [0,1,4,5,6] a0) (Za.seq (Za.seq (Za.go Qf 400 [] [0,1,5,6,7] a0) (Za.block hl1)) (Za.go Qf 400 [] [1,4] a0))))) (by intro i e;cases e) rfl
theorem Ke (xs:List Int) (v:Int):lm xs++([.int .u32 v]:List AV)=lm (xs++[v]):=by simp [lm]
theorem Gd {xs:List Int} (h:U32 xs) {v:Int} (hv:0≤v∧v<4294967296):U32 (xs++[v]):=by
 intro x hx
 rcases List.mem_append.1 hx with g | g
 ·exact h x g
 ·rw[List.mem_singleton.1 g];exact hv
theorem W3 (xs:List Int) (v:Int):Zn (xs++[v])=Zn xs+4294967296^xs.length*v:=by rw [Um];simp [Zn]
theorem sr32 {s:Int}:Int.fdiv s (2^(min (Int.toNat 32) (IntKind.bits .u64)))=s / 4294967296:=by
 show Int.fdiv s 4294967296=_
 rw[Int.fdiv_eq_ediv_of_nonneg _ (by omega)]
theorem sr63 {s:Int}:Int.fdiv s (2^(min (Int.toNat 63) (IntKind.bits .u64)))=s / 9223372036854775808:=by
 show Int.fdiv s 9223372036854775808=_
 rw[Int.fdiv_eq_ediv_of_nonneg _ (by omega)]
theorem Zkm {xs ys:List Int} (hx:U32 xs) (hy:U32 ys) (h1:xs.length<1048576) (h2:ys.length<1048576):∀ (r i:Nat) (acc:List Int) (c:Int),i+r=max xs.length ys.length→acc.length=i→U32 acc→0≤c∧c≤1 →
  ∃ (zs:List Int) (c' i':Int),U32 zs∧zs.length≤max xs.length ys.length+1∧Zn zs=Zn acc+4294967296^i*(c+Zn (xs.drop i)+Zn (ys.drop i)) ∧
   Za Yir (.loop N2) (Hm xs ys i (lm acc) c (i:Nat)) (.exit 0) (Hm xs ys zs.length (lm zs) c' i'):=by
 intro r
 induction r with
 | zero =>
  intro i acc c hi hl hu hc
  have e1:Zn (xs.drop i)=0:=J3 (by omega)
  have e2:Zn (ys.drop i)=0:=J3 (by omega)
  have g1:decide ((i:Int)<(xs.length:Int))=false:=by simp;omega
  have g2:decide ((i:Int)<(ys.length:Int))=false:=by simp;omega
  by_cases hc0:c=0
  ·refine⟨acc,c,i,hu,by omega,by rw[e1,e2,hc0];simp,?_⟩
   rw[hl]
   exact Za.loop_out (Zf2 xs ys i (lm acc) c (i:Nat) g1 g2 (by simp;omega)) (by intro e;cases e)
  ·have hc1:c=1:=by omega
   subst hc1
   refine⟨acc++[1],0,i64.wrap ((i:Int)+1),Gd hu (by omega),by simp;omega,by rw[W3,e1,e2,hl];simp,?_⟩
   have k:=Zq1 xs ys i (lm acc) 1 (i:Nat) g1 g2 (by simp) (by omega)
   rw[sr32,Gb,show (1:Int) % 4294967296=1 by decide,show (1:Int) / 4294967296=0 by decide,Ke] at k
   have ei:i64.wrap ((i:Int)+1)=((i+1:Nat):Int):=by rw[w64 (by omega) (by omega)];omega
   rw[ei] at k ⊢
   have k2:=Zf2 xs ys (i+1) (lm (acc++[1])) 0 ((i+1:Nat):Int) (by simp;omega) (by simp;omega) (by simp)
   have hll:(acc++[1]).length=i+1:=by simp[hl]
   rw[hll]
   exact Za.loop k (Za.loop_out k2 (by intro e;cases e))
 | succ r ih =>
  intro i acc c hi hl hu hc
  have bx:=Zw hx i
  have byy:=Zw hy i
  have ei:i64.wrap ((i:Int)+1)=((i+1:Nat):Int):=by rw[w64 (by omega) (by omega)];omega
  have step:Za Yir N2 (Hm xs ys i (lm acc) c (i:Nat)) .norm (Hm xs ys (i+1) (lm (acc++[(c+xs.getD i 0+ys.getD i 0) % 4294967296])) ((c+xs.getD i 0+ys.getD i 0) / 4294967296) ((i+1:Nat):Int)):=by
   have wx:u64.wrap (xs.getD i 0)=xs.getD i 0:=by rw[Ql];omega
   have wy:u64.wrap (ys.getD i 0)=ys.getD i 0:=by rw[Ql];omega
   by_cases g1:i<xs.length <;> by_cases g2:i<ys.length
   ·have k:=Zq4 xs ys i (lm acc) c (i:Nat) (by simp;omega) (by simp;omega) (by omega) (by omega) (by omega)
    have w1:u64.wrap (u64.wrap (c+xs.getD i 0)+ys.getD i 0)=c+xs.getD i 0+ys.getD i 0:=by rw[Ql,Ql];omega
    simp only[Int.toNat_natCast,wx,wy,w1,sr32,Gb,ei,Ke] at k
    exact k
   ·have k:=Zq3 xs ys i (lm acc) c (i:Nat) (by simp;omega) (by simp;omega) (by omega) (by omega)
    have hz:ys.getD i 0=0:=Qi (by omega)
    have w1:u64.wrap (c+xs.getD i 0)=c+xs.getD i 0+ys.getD i 0:=by rw[Ql,hz];omega
    simp only[Int.toNat_natCast,wx,w1,sr32,Gb,ei,Ke] at k
    exact k
   ·have k:=Zq2 xs ys i (lm acc) c (i:Nat) (by simp;omega) (by simp;omega) (by omega) (by omega)
    have hz:xs.getD i 0=0:=Qi (by omega)
    have w1:u64.wrap (c+ys.getD i 0)=c+xs.getD i 0+ys.getD i 0:=by rw[Ql,hz];omega
    simp only[Int.toNat_natCast,wy,w1,sr32,Gb,ei,Ke] at k
    exact k
   ·omega
  obtain⟨zs,c',i',q1,q2,q3,q4⟩:=ih (i+1) (acc++[(c+xs.getD i 0+ys.getD i 0) % 4294967296]) ((c+xs.getD i 0+ys.getD i 0) / 4294967296) (by omega) (by simp[hl]) (Gd hu (by omega)) (by omega)
  refine⟨zs,c',i',q1,q2,?_,Za.loop step q4⟩
  rw[q3,W3,hl,Qs xs i,Qs ys i,Int.pow_succ]
  have hd:=Int.emod_add_mul_ediv (c+xs.getD i 0+ys.getD i 0) 4294967296
  generalize (c+xs.getD i 0+ys.getD i 0) % 4294967296=m at *
  generalize (c+xs.getD i 0+ys.getD i 0) / 4294967296=d at *
  generalize (4294967296:Int)^i=p at *
  generalize Zn (xs.drop (i+1))=X at *
  generalize Zn (ys.drop (i+1))=Y at *
  have:c+(xs.getD i 0+4294967296*X)+(ys.getD i 0+4294967296*Y)=m+4294967296*(d+X+Y):=by omega
  rw[this]
  grind
theorem Za2 {xs ys:List Int} (hx:U32 xs) (hy:U32 ys) (h1:xs.length<1048576) (h2:ys.length<1048576):∃ zs,U32 zs∧Zn zs=Zn xs+Zn ys∧zs.length≤max xs.length ys.length+1∧Zd Yir 138 [.sl xs.length (lm xs), .sl ys.length (lm ys)] (.fresh 1 zs.length (lm zs)):=by
 obtain⟨zs,c',i',q1,q2,q3,q4⟩:=Zkm hx hy h1 h2 (max xs.length ys.length) 0 [] 0 (by omega) rfl (fun x hx=>by cases hx) (by omega)
 refine⟨zs,q1,by rw[q3];simp[Zn],q2,?_⟩
 exact Zpe xs ys _ _ _ _ q4
theorem Zkk {xs ys:List Int} (hx:U32 xs) (hy:U32 ys) (hl2:ys.length≤xs.length) (h1:xs.length≤1048576):∀ (r i:Nat) (acc:List Int) (c:Int),i+r=xs.length→acc.length=i→U32 acc→0≤c∧c≤1 →
  ∃ (zs:List Int) (c' i':Int),U32 zs∧zs.length=xs.length∧0≤c'∧Zn zs-4294967296^xs.length*c'=Zn acc+4294967296^i*(Zn (xs.drop i)-Zn (ys.drop i)-c) ∧
   Za Yir (.loop Rz) (Di xs ys i (lm acc) c (i:Nat)) (.exit 0) (Di xs ys zs.length (lm zs) c' i'):=by
 intro r
 induction r with
 | zero =>
  intro i acc c hi hl hu hc
  have e1:Zn (xs.drop i)=0:=J3 (by omega)
  have e2:Zn (ys.drop i)=0:=J3 (by omega)
  have hii:xs.length=i:=by omega
  refine⟨acc,c,i,hu,by omega,hc.1,by rw[e1,e2,hii];grind,?_⟩
  rw[hl]
  exact Za.loop_out (Zqu xs ys i (lm acc) c (i:Nat) (by simp;omega)) (by intro e;cases e)
 | succ r ih =>
  intro i acc c hi hl hu hc
  have bx:=Zw hx i
  have byy:=Zw hy i
  have ei:i64.wrap ((i:Int)+1)=((i+1:Nat):Int):=by rw[w64 (by omega) (by omega)];omega
  have step:Za Yir Rz (Di xs ys i (lm acc) c (i:Nat)) .norm (Di xs ys (i+1) (lm (acc++[(xs.getD i 0-ys.getD i 0-c) % 4294967296])) (-((xs.getD i 0-ys.getD i 0-c) / 4294967296)) ((i+1:Nat):Int)):=by
   have wx:u64.wrap (xs.getD i 0)=xs.getD i 0:=by rw[Ql];omega
   have wy:u64.wrap (ys.getD i 0)=ys.getD i 0:=by rw[Ql];omega
   by_cases g2:i<ys.length
   ·have k:=Zqw xs ys i (lm acc) c (i:Nat) (by simp;omega) (by simp;omega) (by omega) (by omega) (by omega)
    have w1:u64.wrap (u64.wrap (xs.getD i 0-ys.getD i 0)-c) % 4294967296=(xs.getD i 0-ys.getD i 0-c) % 4294967296:=by rw[Ql,Ql];omega
    have w2:u64.wrap (u64.wrap (xs.getD i 0-ys.getD i 0)-c) / 9223372036854775808 = -((xs.getD i 0-ys.getD i 0-c) / 4294967296):=by rw[Ql,Ql];omega
    simp only[Int.toNat_natCast,wx,wy,sr63,Gb,w1,w2,ei,Ke] at k
    exact k
   ·have k:=Zqv xs ys i (lm acc) c (i:Nat) (by simp;omega) (by simp;omega) (by omega) (by omega)
    have hz:ys.getD i 0=0:=Qi (by omega)
    have w1:u64.wrap (u64.wrap (xs.getD i 0-0)-c) % 4294967296=(xs.getD i 0-ys.getD i 0-c) % 4294967296:=by rw[Ql,Ql,hz];omega
    have w2:u64.wrap (u64.wrap (xs.getD i 0-0)-c) / 9223372036854775808 = -((xs.getD i 0-ys.getD i 0-c) / 4294967296):=by rw[Ql,Ql,hz];omega
    simp only[Int.toNat_natCast,wx,sr63,Gb,w1,w2,ei,Ke] at k
    exact k
  obtain⟨zs,c',i',q1,q2,q0,q3,q4⟩:=ih (i+1) (acc++[(xs.getD i 0-ys.getD i 0-c) % 4294967296]) (-((xs.getD i 0-ys.getD i 0-c) / 4294967296)) (by omega) (by simp[hl]) (Gd hu (by omega)) (by omega)
  refine⟨zs,c',i',q1,q2,q0,?_,Za.loop step q4⟩
  rw[q3,W3,hl,Qs xs i,Qs ys i,Int.pow_succ]
  have hd:=Int.emod_add_mul_ediv (xs.getD i 0-ys.getD i 0-c) 4294967296
  generalize (xs.getD i 0-ys.getD i 0-c) % 4294967296=m at *
  generalize (xs.getD i 0-ys.getD i 0-c) / 4294967296=d at *
  generalize (4294967296:Int)^i=p at *
  generalize Zn (xs.drop (i+1))=X at *
  generalize Zn (ys.drop (i+1))=Y at *
  have:xs.getD i 0+4294967296*X-(ys.getD i 0+4294967296*Y)-c=m+4294967296*(d+X-Y):=by omega
  rw[this]
  grind
theorem A2 {xs ys:List Int} (hx:U32 xs) (hy:U32 ys) (hl:ys.length≤xs.length) (hv:Zn ys≤Zn xs) (h1:xs.length≤1048576):∃ zs,U32 zs∧Zn zs=Zn xs-Zn ys∧zs.length=xs.length∧Zd Yir 140 [.sl xs.length (lm xs), .sl ys.length (lm ys)] (.fresh 1 zs.length (lm zs)):=by
 obtain⟨zs,c',i',q1,q2,q0,q3,q4⟩:=Zkk hx hy hl h1 xs.length 0 [] 0 (by omega) rfl (fun x hx=>by cases hx) (by omega)
 simp only[Zn,Int.pow_zero,List.drop_zero,Int.one_mul,Int.zero_add,Int.sub_zero] at q3
 have hlt:=Ul q1
 rw[q2] at hlt
 have hp:=Jv xs.length
 have hc:c'=0:=by
  generalize (4294967296:Int)^xs.length=p at *
  rcases Int.lt_or_le 0 c' with g | g
  ·have:p*1≤p*c':=Int.mul_le_mul_of_nonneg_left (by omega) (by omega)
   omega
  ·omega
 subst hc
 refine⟨zs,q1,by simpa using q3,q2,?_⟩
 exact Zpd xs ys _ _ _ _ q4
theorem Fi {neg:Bool} {xs:List Int} (hu:U32 xs) (hN:xs.length≤1048576):Zd Yir 106 [.bool neg, .sl xs.length (lm xs)] (F3 (rv neg xs)):=Bt hu hN
theorem Bh {neg:Bool} {xs:List Int} (hu:U32 xs) (hN:xs.length≤1048576):Zd Yir 81 [.agg [.bool neg, .sl xs.length (lm xs)]] (.int .i64 (Vp (rv neg xs))):=by
 have hm:=U6 hN
 have hz:(Ze xs).length=0↔Zn xs=0:=by
  have:=Z4 hu
  rw[E4 hu,Jx];omega
 have hv:=Z4 hu
 by_cases h0:Zn xs=0
 ·have h:=Zey neg xs (by rw[beq_iff_eq];omega) hm
  have e:Vp (rv neg xs)=0:=by unfold rv;rw[h0];cases neg <;> rfl
  rw[e];exact h
 ·cases neg with
  | true =>
   have h:=Zex true xs (by rw[beq_eq_false_iff_ne];omega) rfl hm
   have e:Vp (rv true xs) = -1:=by simp only[rv,if_true,Vp]; (repeat' split) <;> omega
   rw[e];exact h
  | false =>
   have h:=Zew false xs (by rw[beq_eq_false_iff_ne];omega) rfl hm
   have e:Vp (rv false xs)=1:=by simp only[rv,Bool.false_eq_true,if_false,Vp]; (repeat' split) <;> omega
   rw[e];exact h
theorem Zcf {neg:Bool} {xs:List Int} (hu:U32 xs) (hN:xs.length≤1048576):Zd Yir 93 [.agg [.bool neg, .sl xs.length (lm xs)]] (Zp (rv neg xs)):=Yrun93 neg xs _ (Fi hu hN)
theorem Zkb (na nb:Bool) (xs ys zs:List Int) (v:Int) (n1:Zd Yir 125 [.sl xs.length (lm xs)] (.fresh 1 ((Ze xs).length) (lm (Ze xs)))) (n2:Zd Yir 125 [.sl ys.length (lm ys)] (.fresh 1 ((Ze ys).length) (lm (Ze ys)))) (n3:Zd Yir 141 [.sl ((Ze xs).length) (lm (Ze xs)), .sl ((Ze ys).length) (lm (Ze ys))] (.fresh 1 zs.length (lm zs))) (n4:Zd Yir 106 [.bool (!(na==nb)), .sl zs.length (lm zs)] (F3 v)):Zd Yir 105 [.agg [.bool na, .sl xs.length (lm xs)], .agg [.bool nb, .sl ys.length (lm ys)]] (Zp v):=Zd.go (fn:=Zgl) Qf rfl 400 rfl [.r (.fresh 1 ((Ze xs).length) (lm (Ze xs))), .r (.fresh 1 ((Ze ys).length) (lm (Ze ys))), .r (.fresh 1 zs.length (lm zs)), .r (F3 v)] (ac n1 (ac n2 (ac n3 (ac n4 a0))))
theorem Zfr (na nb:Bool) (xs ys zs:List Int) (v:Int) (c1:(na==nb)=true) (n1:Zd Yir 125 [.sl xs.length (lm xs)] (.fresh 1 ((Ze xs).length) (lm (Ze xs)))) (n2:Zd Yir 125 [.sl ys.length (lm ys)] (.fresh 1 ((Ze ys).length) (lm (Ze ys)))) (n3:Zd Yir 138 [.sl ((Ze xs).length) (lm (Ze xs)), .sl ((Ze ys).length) (lm (Ze ys))] (.fresh 1 zs.length (lm zs))) (n4:Zd Yir 106 [.bool na, .sl zs.length (lm zs)] (F3 v)):Zd Yir 104 [.agg [.bool na, .sl xs.length (lm xs)], .agg [.bool nb, .sl ys.length (lm ys)]] (Zp v):=Zd.go (fn:=Ry) Qf rfl 400 rfl [.r (.fresh 1 ((Ze xs).length) (lm (Ze xs))), .r (.fresh 1 ((Ze ys).length) (lm (Ze ys))), .b true, .r (.fresh 1 zs.length (lm zs)), .r (F3 v)] (ac n1 (ac n2 (ac c1 (ac n3 (ac n4 a0)))))
theorem Zfq (na nb:Bool) (xs ys zs:List Int) (v c:Int) (c1:(na==nb)=false) (c2:(decide (c≥0))=true) (n1:Zd Yir 125 [.sl xs.length (lm xs)] (.fresh 1 ((Ze xs).length) (lm (Ze xs)))) (n2:Zd Yir 125 [.sl ys.length (lm ys)] (.fresh 1 ((Ze ys).length) (lm (Ze ys)))) (n3:Zd Yir 139 [.sl ((Ze xs).length) (lm (Ze xs)), .sl ((Ze ys).length) (lm (Ze ys))] (.int .i64 c)) (n4:Zd Yir 140 [.sl ((Ze xs).length) (lm (Ze xs)), .sl ((Ze ys).length) (lm (Ze ys))] (.fresh 1 zs.length (lm zs))) (n5:Zd Yir 106 [.bool na, .sl zs.length (lm zs)] (F3 v)):Zd Yir 104 [.agg [.bool na, .sl xs.length (lm xs)], .agg [.bool nb, .sl ys.length (lm ys)]] (Zp v):=Zd.go (fn:=Ry) Qf rfl 400 rfl [.r (.fresh 1 ((Ze xs).length) (lm (Ze xs))), .r (.fresh 1 ((Ze ys).length) (lm (Ze ys))), .b false, .r (.int .i64 c), .b true, .r (.fresh 1 zs.length (lm zs)), .r (F3 v)] (ac n1 (ac n2 (ac c1 (ac n3 (ac c2 (ac n4 (ac n5 a0)))))))
theorem Zfp (na nb:Bool) (xs ys zs:List Int) (v c:Int) (c1:(na==nb)=false) (c2:(decide (c≥0))=false) (n1:Zd Yir 125 [.sl xs.length (lm xs)] (.fresh 1 ((Ze xs).length) (lm (Ze xs)))) (n2:Zd Yir 125 [.sl ys.length (lm ys)] (.fresh 1 ((Ze ys).length) (lm (Ze ys)))) (n3:Zd Yir 139 [.sl ((Ze xs).length) (lm (Ze xs)), .sl ((Ze ys).length) (lm (Ze ys))] (.int .i64 c)) (n4:Zd Yir 140 [.sl ((Ze ys).length) (lm (Ze ys)), .sl ((Ze xs).length) (lm (Ze xs))] (.fresh 1 zs.length (lm zs))) (n5:Zd Yir 106 [.bool nb, .sl zs.length (lm zs)] (F3 v)):Zd Yir 104 [.agg [.bool na, .sl xs.length (lm xs)], .agg [.bool nb, .sl ys.length (lm ys)]] (Zp v):=Zd.go (fn:=Ry) Qf rfl 400 rfl [.r (.fresh 1 ((Ze xs).length) (lm (Ze xs))), .r (.fresh 1 ((Ze ys).length) (lm (Ze ys))), .b false, .r (.int .i64 c), .b false, .r (.fresh 1 zs.length (lm zs)), .r (F3 v)] (ac n1 (ac n2 (ac c1 (ac n3 (ac c2 (ac n4 (ac n5 a0)))))))
theorem Zb1 (neg:Bool) (xs:List Int):rv neg (Ze xs)=rv neg xs:=by unfold rv;rw [Xk]
theorem E2 {xs:List Int} (h:U32 xs):U32 (Ze xs):=(Uo h).1
theorem rv_mul (na nb:Bool) (xs ys zs:List Int) (h:Zn zs=Zn xs*Zn ys):rv (!(na==nb)) zs=rv na xs*rv nb ys:=by
 unfold rv
 rw[h]
 generalize Zn xs=X
 generalize Zn ys=Y
 cases na <;> cases nb <;> simp <;> grind
theorem T1 {na nb:Bool} {xs ys:List Int} (hx:U32 xs) (hy:U32 ys) (hN:xs.length+ys.length≤1048576):Zd Yir 105 [.agg [.bool na, .sl xs.length (lm xs)], .agg [.bool nb, .sl ys.length (lm ys)]] (Zp (rv na xs*rv nb ys)):=by
 have t1:=Qw xs
 have t2:=Qw ys
 obtain⟨zs,z1,z2,z3,z4⟩:=Zag (E2 hx) (E2 hy) (by omega)
 have hk:=Fi (neg := !(na==nb)) z2 (by omega)
 rw[rv_mul na nb (Ze xs) (Ze ys) zs z3,Zb1,Zb1] at hk
 exact Zkb na nb xs ys zs _ (U6 (by omega)) (U6 (by omega)) z4 hk
theorem Zcj {na nb:Bool} {xs ys:List Int} (hx:U32 xs) (hy:U32 ys) (h1:xs.length<1048576) (h2:ys.length<1048576):Zd Yir 104 [.agg [.bool na, .sl xs.length (lm xs)], .agg [.bool nb, .sl ys.length (lm ys)]] (Zp (rv na xs+rv nb ys)):=by
 have t1:=Qw xs
 have t2:=Qw ys
 have c1:=Uo hx
 have c2:=Uo hy
 have m1:=U6 (xs:=xs) (by omega)
 have m2:=U6 (xs:=ys) (by omega)
 have hcmp:=Er c1 c2 (by omega)
 by_cases hn:na=nb
 ·subst hn
  obtain⟨zs,z1,z2,z3,z4⟩:=Za2 c1.1 c2.1 (by omega) (by omega)
  have hk:=Fi (neg:=na) z1 (by omega)
  have e:rv na zs=rv na xs+rv na ys:=by
   unfold rv;rw[z2,Xk,Xk];cases na <;> simp;omega
  rw[e] at hk
  exact Zfr na na xs ys zs _ (by simp) m1 m2 z4 hk
 ·have hb:nb = !na:=by cases na <;> cases nb <;> simp at hn ⊢
  by_cases hc:Uw (Zn (Ze xs)) (Zn (Ze ys))≥0
  ·have hle:Zn (Ze ys)≤Zn (Ze xs):=by unfold Uw at hc;split at hc <;> (try split at hc) <;> omega
   have hlen:(Ze ys).length≤(Ze xs).length:=Ab c2 (Int.lt_of_le_of_lt hle (Ul c1.1))
   obtain⟨zs,z1,z2,z3,z4⟩:=A2 c1.1 c2.1 hlen hle (by omega)
   have hk:=Fi (neg:=na) z1 (by omega)
   have e:rv na zs=rv na xs+rv nb ys:=by
    unfold rv;rw[z2,Xk,Xk,hb];cases na <;> simp <;> omega
   rw[e] at hk
   exact Zfq na nb xs ys zs _ _ (by rw[hb];cases na <;> rfl) (by simpa using hc) m1 m2 hcmp z4 hk
  ·have hle:Zn (Ze xs)≤Zn (Ze ys):=by unfold Uw at hc;split at hc <;> (try split at hc) <;> omega
   have hlen:(Ze xs).length≤(Ze ys).length:=Ab c1 (Int.lt_of_le_of_lt hle (Ul c2.1))
   obtain⟨zs,z1,z2,z3,z4⟩:=A2 c2.1 c1.1 hlen hle (by omega)
   have hk:=Fi (neg:=nb) z1 (by omega)
   have e:rv nb zs=rv na xs+rv nb ys:=by
    unfold rv;rw[z2,Xk,Xk,hb];cases na <;> simp <;> omega
   rw[e] at hk
   exact Zfp na nb xs ys zs _ _ (by rw[hb];cases na <;> rfl) (by simpa using hc) m1 m2 hcmp z4 hk
def TBD:Js:=TBC
theorem X3:Qt Yir TBD:=Qf
end Go.Proofs.Ythnnfemologhfaa

namespace Go.Proofs.Ythnnfemologhfaa
open Go.IntKind (i64 u64 u32)
open Go.Ai
theorem or64 {q c:Int} {s:Nat} (hq:0≤q) (hs:q*2^s<18446744073709551616) (hs':s≤64) (hc:0≤c∧c<2^s) :
  u64.wrap ((BitVec.ofInt (IntKind.bits .u64) (q*2^s) ||| BitVec.ofInt (IntKind.bits .u64) c).toNat)=q*2^s+c:=by
 obtain⟨a,rfl⟩:∃ a:Nat,q=a:=⟨q.toNat,by omega⟩
 obtain⟨b,rfl⟩:∃ b:Nat,c=b:=⟨c.toNat,by omega⟩
 have e1:(a:Int)*2^s=((a*2^s:Nat):Int):=by rw[Int.natCast_mul,Int.natCast_pow];rfl
 have hb:b<2^s:=by
  have:(b:Int)<((2^s:Nat):Int):=by rw[Int.natCast_pow];exact hc.2
  omega
 have h64:2^s≤2^64:=Nat.pow_le_pow_right (by decide) hs'
 have e64:2^64=18446744073709551616:=by decide
 rw[e1] at hs ⊢
 show u64.wrap ((BitVec.ofInt 64 ((a*2^s:Nat):Int) ||| BitVec.ofInt 64 (b:Int)).toNat:Int)=_
 rw[BitVec.toNat_or,BitVec.ofInt_natCast,BitVec.ofInt_natCast,BitVec.toNat_ofNat,BitVec.toNat_ofNat,Nat.mod_eq_of_lt (by omega),Nat.mod_eq_of_lt (by omega),Nat.mul_comm a,← Nat.two_pow_add_eq_or_of_lt hb,Nat.mul_comm (2^s) a,Ql]
 have hsum:a*2^s+b<18446744073709551616:=by
  have hd:a*2^s+2^s≤2^64:=by
   have hk:2^64=2^(64-s)*2^s:=by rw[← Nat.pow_add];congr 1;omega
   have h1:a<2^(64-s):=by
    rcases Nat.lt_or_ge a (2^(64-s)) with g | g
    ·exact g
    ·have:=Nat.mul_le_mul_right (2^s) g
     omega
   have h2:=Nat.mul_le_mul_right (2^s) (show a+1≤2^(64-s) by omega)
   rw[Nat.add_mul,Nat.one_mul] at h2
   omega
  omega
 omega
theorem J2 (n:Nat):(0:Int)<2^n:=Int.pow_pos (by decide)
theorem H4 {a b:Nat} (h:a≤b):(2:Int)^a≤2^b:=by
 have h1:2^a≤2^b:=Nat.pow_le_pow_right (by decide) h
 have e:∀ n:Nat,(2:Int)^n=((2^n:Nat):Int):=fun n=>by rw[Int.natCast_pow];rfl
 rw[e,e]
 omega
theorem Gk (n:Nat):(4294967296:Int)^n=2^(32*n):=by
 rw[Int.pow_mul];rfl
theorem A6 (n:Nat):(2:Int)^n=4294967296^(n / 32)*2^(n % 32):=by
 rw[Gk,← Int.pow_add,Nat.div_add_mod]
end Go.Proofs.Ythnnfemologhfaa

namespace Go.Proofs.Ythnnfemologhfaa
open Go.IntKind (i64 u64 u32)
open Go.Ai
set_option maxRecDepth 100000
def Lo (neg:Bool) (xs:List Int) (n:Nat) (cs:List AV) (c:Int) (s:Int) (ms:List Int) (i:Int):Zk:=(dds 2 (.box [.bool neg, .sl xs.length (lm xs)]::(dds 1 (.box [.bool false, .sl 0 []]::(.own 1 n cs::(.val (.int .u32 c)::(.val (.int .u64 s)::(.val (.sl ms.length (lm ms))::(.val (.int .i64 i)::(dds 41 []))))))))))
theorem Zrb (neg:Bool) (xs:List Int) (n:Nat) (cs:List AV) (c:Int) (s:Int) (ms:List Int) (i:Int)  (c1:(decide (i<(ms.length:Int)))=true) (n1:0≤i∧i<(ms.length:Int)) (n2:¬ s<0) (n3:n+1≤1048576):Za Yir Zgv (Lo neg xs n cs c s ms i) .norm (Lo neg xs (n+1) (cs++([.int .u32 (u32.wrap (u64.wrap ((BitVec.ofInt (IntKind.bits .u64) (u64.wrap ((u64.wrap (ms.getD (Int.toNat i) 0))*2^(min (Int.toNat s) (IntKind.bits .u64)))) ||| BitVec.ofInt (IntKind.bits .u64) (u64.wrap c)).toNat)))]:List AV)) (u32.wrap (Int.fdiv (u64.wrap ((BitVec.ofInt (IntKind.bits .u64) (u64.wrap ((u64.wrap (ms.getD (Int.toNat i) 0))*2^(min (Int.toNat s) (IntKind.bits .u64)))) ||| BitVec.ofInt (IntKind.bits .u64) (u64.wrap c)).toNat)) (2^(min (Int.toNat 32) (IntKind.bits .u64))))) s ms (i64.wrap (i+1))):=(Za.go X3 400 [.b true, .v (.int .u32 (ms.getD (Int.toNat i) 0))] [2,4,5,6,7,8,9] (ac c1 (ac n1 (ac (Jc n1) (ac n2 (ac (show List.length ([.int .u32 (u32.wrap (u64.wrap ((BitVec.ofInt (IntKind.bits .u64) (u64.wrap ((u64.wrap (ms.getD (Int.toNat i) 0))*2^(min (Int.toNat s) (IntKind.bits .u64)))) ||| BitVec.ofInt (IntKind.bits .u64) (u64.wrap c)).toNat)))]:List AV)=1*1 from rfl) (ac n3 (ac (show ¬ (32:Int)<0 from (by decide)) a0))))))))
theorem Zra (neg:Bool) (xs:List Int) (n:Nat) (cs:List AV) (c:Int) (s:Int) (ms:List Int) (i:Int)  (c1:(decide (i<(ms.length:Int)))=false):Za Yir Zgv (Lo neg xs n cs c s ms i) (.exit 0) (Lo neg xs n cs c s ms i):=(Za.go X3 400 [.b false] [2,4,5,6,7,8,9] (ac c1 a0))
theorem Zph (neg:Bool) (xs:List Int) (sh:Int) (n:Nat) (cs:List AV) (c i v:Int) (n1:0≤(i64.wrap (Int.tdiv sh 32))∧(i64.wrap (Int.tdiv sh 32))≤1048576) (n2:Zd Yir 125 [.sl xs.length (lm xs)] (.fresh 1 ((Ze xs).length) (lm (Ze xs)))) (hl3:Za Yir (.loop Zgv) (Lo neg xs (Int.toNat (i64.wrap (Int.tdiv sh 32))) (Qv [.int .u32 0] (Int.toNat (i64.wrap (Int.tdiv sh 32)))) 0 (u64.wrap (Int.tmod sh 32)) (Ze xs) 0) (.exit 0) (Lo neg xs n cs c (u64.wrap (Int.tmod sh 32)) (Ze xs) i)) (n4:n+1≤1048576) (n5:Zd Yir 106 [.bool neg, .sl (n+1) (cs++([.int .u32 c]:List AV))] (F3 v)):Zd Yir 126 [.agg [.bool neg, .sl xs.length (lm xs)], .int .i64 sh] (F3 v):=Zd.of_bodyW (fn:=Zgf) (s:=(dds 4 (.bxl 50::(dds 45 (.agn (decide (v<0)) 1 ((Zb (Int.natAbs v)).length) (lm (Zb (Int.natAbs v)))::[]))))) (ex := .ret) rfl rfl (Za.seq (Za.go (t:=(.val (.agg [.bool neg, .sl xs.length (lm xs)])::(vi sh::(.box [.bool neg, .sl xs.length (lm xs)]::(dds 1 (.box [.bool false, .sl 0 []]::(dds 46 []))))))) X3 400 [] [0,1,2,4] a0) (Za.seq (Za.go (t:=(.val (.agg [.bool neg, .sl xs.length (lm xs)])::(vi sh::(.box [.bool neg, .sl xs.length (lm xs)]::(dds 1 (.box [.bool false, .sl 0 []]::(.own 1 (Int.toNat (i64.wrap (Int.tdiv sh 32))) (Qv [.int .u32 0] (Int.toNat (i64.wrap (Int.tdiv sh 32))))::(dds 45 [])))))))) X3 400 [] [0,1,2,4,5] (ac (show ¬ (32:Int)=0 from (by decide)) (ac n1 a0))) (Za.seq (Za.go (t:=(.val (.agg [.bool neg, .sl xs.length (lm xs)])::(vi sh::(.box [.bool neg, .sl xs.length (lm xs)]::(dds 1 (.box [.bool false, .sl 0 []]::(.own 1 (Int.toNat (i64.wrap (Int.tdiv sh 32))) (Qv [.int .u32 0] (Int.toNat (i64.wrap (Int.tdiv sh 32))))::(.val (.int .u32 0)::(dds 44 []))))))))) X3 400 [] [0,1,2,4,5,6] a0) (Za.seq (Za.go (t:=(.val (.agg [.bool neg, .sl xs.length (lm xs)])::(vi sh::(.box [.bool neg, .sl xs.length (lm xs)]::(dds 1 (.box [.bool false, .sl 0 []]::(.own 1 (Int.toNat (i64.wrap (Int.tdiv sh 32))) (Qv [.int .u32 0] (Int.toNat (i64.wrap (Int.tdiv sh 32))))::(.val (.int .u32 0)::(.val (.int .u64 (u64.wrap (Int.tmod sh 32)))::(dds 43 [])))))))))) X3 400 [] [0,1,2,4,5,6,7] (ac (show ¬ (32:Int)=0 from (by decide)) a0)) (Za.seq (Za.go (t:=(.val (.agg [.bool neg, .sl xs.length (lm xs)])::(vi sh::(.box [.bool neg, .sl xs.length (lm xs)]::(dds 1 (.box [.bool false, .sl 0 []]::(.own 1 (Int.toNat (i64.wrap (Int.tdiv sh 32))) (Qv [.int .u32 0] (Int.toNat (i64.wrap (Int.tdiv sh 32))))::(.val (.int .u32 0)::(.val (.int .u64 (u64.wrap (Int.tmod sh 32)))::(.val (.sl ((Ze xs).length) (lm (Ze xs)))::(dds 42 []))))))))))) X3 400 [.r (.fresh 1 ((Ze xs).length) (lm (Ze xs)))] [0,1,2,4,5,6,7,8] (ac n2 a0)) (Za.seq (Za.seq (Za.go X3 400 [] [2,4,5,6,7,8,9] a0) (Za.block hl3)) (Za.go X3 400 [.r (F3 v)] [4,50] (ac (show List.length ([.int .u32 c]:List AV)=1*1 from rfl) (ac n4 (ac n5 a0)))))))))) (by intro i e;cases e) rfl
theorem Ty {x c:Int} {s:Nat} (hx:0≤x∧x<4294967296) (hs:s<32) (hc:0≤c∧c<2^s) :
  u64.wrap ((BitVec.ofInt (IntKind.bits .u64) (u64.wrap ((u64.wrap x)*2^(min (Int.toNat (s:Int)) (IntKind.bits .u64)))) ||| BitVec.ofInt (IntKind.bits .u64) (u64.wrap c)).toNat)=x*2^s+c
  ∧ 0≤(x*2^s+c) / 4294967296∧(x*2^s+c) / 4294967296<2^s∧(2:Int)^s≤2147483648:=by
 have hp:=J2 s
 have hp2:(2:Int)^s≤2147483648:=H4 (show s≤31 by omega)
 have hm:x*2^s≤4294967295*2^s:=Int.mul_le_mul_of_nonneg_right (by omega) (by omega)
 have hm0:0≤x*2^s:=Int.mul_nonneg hx.1 (by omega)
 have hmin:min (Int.toNat (s:Int)) (IntKind.bits .u64)=s:=by
  rw[Int.toNat_natCast]
  show min s 64=s
  omega
 have w1:u64.wrap x=x:=by rw[Ql];omega
 have w2:u64.wrap (x*2^s)=x*2^s:=by rw[Ql];omega
 have w3:u64.wrap c=c:=by rw[Ql];omega
 refine⟨?_,by omega,by omega,hp2⟩
 rw[hmin,w1,w2,w3]
 exact or64 hx.1 (by omega) (by omega) hc
theorem Zkp {neg:Bool} {xs ms pre:List Int} (hu:U32 ms) {s:Nat} (hs:s<32) (hN:pre.length+ms.length≤1048576):∀ (r i:Nat) (acc:List Int) (c:Int),i+r=ms.length→acc.length=i→U32 acc→0≤c∧c<2^s →
  ∃ (zs:List Int) (c':Int),U32 zs∧zs.length=ms.length∧(0≤c'∧c'<2^s)∧Zn zs+4294967296^ms.length*c'=Zn acc+4294967296^i*(c+2^s*Zn (ms.drop i)) ∧
   Za Yir (.loop Zgv) (Lo neg xs (pre.length+i) (lm (pre++acc)) c (s:Nat) ms (i:Nat)) (.exit 0) (Lo neg xs (pre.length+ms.length) (lm (pre++zs)) c' (s:Nat) ms (ms.length:Nat)):=by
 intro r
 induction r with
 | zero =>
  intro i acc c hi hl hacc hc
  have e1:Zn (ms.drop i)=0:=J3 (by omega)
  have hi':i=ms.length:=by omega
  refine⟨acc,c,hacc,by omega,hc,by rw[e1,hi'];simp,?_⟩
  rw[hi']
  exact Za.loop_out (Zra neg xs _ _ c (s:Nat) ms (ms.length:Nat) (by simp)) (by intro e;cases e)
 | succ r ih =>
  intro i acc c hi hl hacc hc
  have bm:=Zw hu i
  obtain⟨w1,w2,w3,w4⟩:=Ty bm hs hc
  have ei:i64.wrap ((i:Int)+1)=((i+1:Nat):Int):=by rw[w64 (by omega) (by omega)];omega
  have k:=Zrb neg xs (pre.length+i) (lm (pre++acc)) c (s:Nat) ms (i:Nat) (by simp;omega) (by omega) (by omega) (by omega)
  have wd:u32.wrap ((ms.getD i 0*2^s+c) / 4294967296)=(ms.getD i 0*2^s+c) / 4294967296:=by rw[Gb];omega
  simp only[Int.toNat_natCast i,w1,sr32,wd,Gb (ms.getD i 0*2^s+c),ei,Ke,List.append_assoc] at k
  obtain⟨zs,c',q1,q2,q3,q4,q5⟩:=ih (i+1) (acc++[(ms.getD i 0*2^s+c) % 4294967296]) ((ms.getD i 0*2^s+c) / 4294967296) (by omega) (by simp[hl]) (Gd hacc (by omega)) ⟨w2,w3⟩
  refine⟨zs,c',q1,q2,q3,?_,Za.loop k q5⟩
  rw[q4,W3,hl,Qs ms i,Int.pow_succ]
  have hd:=Int.emod_add_mul_ediv (ms.getD i 0*2^s+c) 4294967296
  generalize (ms.getD i 0*2^s+c) % 4294967296=m at *
  generalize (ms.getD i 0*2^s+c) / 4294967296=d at *
  generalize (4294967296:Int)^i=p at *
  generalize Zn (ms.drop (i+1))=X at *
  generalize (2:Int)^s=T at *
  generalize ms.getD i 0=y at *
  have:c+T*(y+4294967296*X)=m+4294967296*(d+T*X):=by
   have:c+T*(y+4294967296*X)=(y*T+c)+4294967296*(T*X):=by grind
   omega
  rw[this]
  grind
theorem Sj {neg:Bool} {xs ys:List Int} {t:Int} (h:Zn ys=t*Zn xs):rv neg ys=rv neg xs*t:=by
 unfold rv
 rw[h]
 generalize Zn xs=X
 cases neg <;> simp <;> grind
theorem Zn7 {neg:Bool} {xs:List Int} (hu:U32 xs) (n:Nat) (hN:n / 32+xs.length+1≤1048576):Zd Yir 126 [.agg [.bool neg, .sl xs.length (lm xs)], .int .i64 (n:Nat)] (F3 (rv neg xs*2^n)):=by
 have t1:=Qw xs
 have e1:i64.wrap (Int.tdiv (n:Int) 32)=((n / 32:Nat):Int):=by
  rw[Int.tdiv_eq_ediv_of_nonneg (by omega),w64 (by omega) (by omega)];omega
 have e2:u64.wrap (Int.tmod (n:Int) 32)=((n % 32:Nat):Int):=by
  rw[Int.tmod_eq_emod_of_nonneg (by omega),Ql];omega
 obtain⟨zs,c',q1,q2,q3,q4,q5⟩:=Zkp (neg:=neg) (xs:=xs) (pre:=List.replicate (n / 32) 0) (E2 hu) (s:=n % 32) (by omega) (by simp;omega) (Ze xs).length 0 [] 0 (by omega) rfl (fun x hx=>by cases hx) ⟨by omega,J2 _⟩
 have w4:(2:Int)^(n % 32)≤2147483648:=H4 (show n % 32≤31 by omega)
 simp only[List.length_replicate,List.append_nil,Nat.add_zero,Zn,Int.pow_zero,List.drop_zero,Int.one_mul,Int.zero_add] at q4 q5
 have huz:U32 (List.replicate (n / 32) 0++zs++[c']):=by
  refine Gd ?_ (by omega)
  intro x hx
  rcases List.mem_append.1 hx with g | g
  ·exact Xy _ x g
  ·exact q1 x g
 have hlen:(List.replicate (n / 32) 0++zs++[c']).length=n / 32+(Ze xs).length+1:=by simp[q2];omega
 have hk:=Fi (neg:=neg) huz (by omega)
 have hval:Zn (List.replicate (n / 32) 0++zs++[c'])=2^n*Zn xs:=by
  rw[W3,Um,Xt,A6 n,List.length_append,List.length_replicate,Int.pow_add,q2]
  rw[Xk] at q4
  generalize (4294967296:Int)^(n / 32)=p at *
  generalize (4294967296:Int)^(Ze xs).length=q at *
  generalize (2:Int)^(n % 32)=T at *
  generalize Zn xs=X at *
  generalize Zn zs=Z at *
  grind
 rw[Sj hval,hlen] at hk
 refine Zph neg xs (n:Nat) (n / 32+(Ze xs).length) (lm (List.replicate (n / 32) 0++zs)) c' ((Ze xs).length:Nat) _ (by rw[e1];omega) (U6 (by omega)) (by rw[e1,e2,Int.toNat_natCast,Ue];exact q5) (by omega) (by rw[Ke];exact hk)
def TBE:Js:=TBD
theorem Xp:Qt Yir TBE:=X3
end Go.Proofs.Ythnnfemologhfaa

namespace Go.Proofs.Ythnnfemologhfaa
open Go.IntKind (i64 u64 u32)
open Go.Ai
set_option maxRecDepth 100000
def TQ0:Js:=[]
theorem Qh:Qt Yir TQ0:=Qt.nil _
def Dk (neg:Bool) (N:Nat) (cs:List AV) (n:Int):Zk:=(dds 1 (.box [.bool neg, .sl N cs]::(.val (.bool false)::(.own 1 0 []::(.val (.int .i64 n)::(dds 26 []))))))
theorem Zrj (neg:Bool) (N:Nat) (cs:List AV) (n:Int) (x:Int) (c1:(decide (n>0))=true) (c2:(x==0)=true) (n1:0≤(i64.wrap (n-1))∧(i64.wrap (n-1))<(N:Int)) (n2:Zx (List.drop (Int.toNat (i64.wrap (n-1))*1) cs) 0 1 true=some (.int .u32 x)):Za Yir R1 (Dk neg N cs n) .norm (Dk neg N cs (i64.wrap (n-1))):=Za.script (ps:=[(decide (n>0))=true,0≤(i64.wrap (n-1))∧(i64.wrap (n-1))<(N:Int),Zx (List.drop (Int.toNat (i64.wrap (n-1))*1) cs) 0 1 true=some (.int .u32 x),(x==0)=true]) Qh 300 [.b true, .v (.int .u32 x), .b true] [1,2,3,4] (by kernel_rfl) ⟨c1,n1,n2,c2,trivial⟩
theorem Zri (neg:Bool) (N:Nat) (cs:List AV) (n:Int) (x:Int) (c1:(decide (n>0))=true) (c2:(x==0)=false) (n1:0≤(i64.wrap (n-1))∧(i64.wrap (n-1))<(N:Int)) (n2:Zx (List.drop (Int.toNat (i64.wrap (n-1))*1) cs) 0 1 true=some (.int .u32 x)):Za Yir R1 (Dk neg N cs n) (.exit 0) (Dk neg N cs n):=Za.script (ps:=[(decide (n>0))=true,0≤(i64.wrap (n-1))∧(i64.wrap (n-1))<(N:Int),Zx (List.drop (Int.toNat (i64.wrap (n-1))*1) cs) 0 1 true=some (.int .u32 x),(x==0)=false]) Qh 300 [.b true, .v (.int .u32 x), .b false] [1,2,3,4] (by kernel_rfl) ⟨c1,n1,n2,c2,trivial⟩
theorem Zrh (neg:Bool) (N:Nat) (cs:List AV) (n:Int) (c1:(decide (n>0))=false):Za Yir R1 (Dk neg N cs n) (.exit 0) (Dk neg N cs n):=Za.script (ps:=[(decide (n>0))=false,false=false]) Qh 300 [.b false, .b false] [1,2,3,4] (by kernel_rfl) ⟨c1,rfl,trivial⟩
theorem Tp (neg:Bool) (xs:List Int) (hN:xs.length≤1048576):∀ m,m≤xs.length→Za Yir (.loop R1) (Dk neg xs.length (lm xs) (m:Int)) (.exit 0) (Dk neg xs.length (lm xs) ((Zv xs m:Nat):Int)):=by
 intro m
 induction m with
 | zero =>
  intro _
  exact Za.loop_out (Zrh neg xs.length (lm xs) ((0:Nat):Int) (by simp)) (by intro e;cases e)
 | succ m ih =>
  intro hm
  have e1:i64.wrap (((m+1:Nat):Int)-1)=(m:Int):=by rw[w64 (by omega) (by omega)];omega
  have hx:=Ju (xs:=xs) (i:=m) (by omega)
  simp only[Zv]
  by_cases h0:xs.getD m 0=0
  ·rw[if_pos h0]
   have h1:=Zrj neg xs.length (lm xs) ((m+1:Nat):Int) (xs.getD m 0) (by simp) (by rw[h0];rfl) (by rw[e1];omega) (by rw[e1,Int.toNat_natCast];exact hx)
   rw[e1] at h1
   exact Za.loop h1 (ih (by omega))
  ·rw[if_neg h0]
   exact Za.loop_out (Zri neg xs.length (lm xs) ((m+1:Nat):Int) (xs.getD m 0) (by simp) (by simpa using h0) (by rw[e1];omega) (by rw[e1,Int.toNat_natCast];exact hx)) (by intro e;cases e)
theorem Ls (xs:List Int) (hl:Za Yir (.loop R1) (Dk true xs.length (lm xs) (xs.length:Int)) (.exit 0) (Dk true xs.length (lm xs) ((Zv xs xs.length:Nat):Int))) (hsc:0≤(Int.toNat ((Zv xs xs.length:Nat):Int))∧(Int.toNat ((Zv xs xs.length:Nat):Int))≤xs.length∧xs.length≤xs.length∧(false=true→true=true)):Zd Yir 122 [.agg [.bool true, .sl xs.length (lm xs)]] (.tup [.bool (decide (((Zv xs xs.length:Nat):Int)>0)), .sl ((Int.toNat ((Zv xs xs.length:Nat):Int))-0) (List.take (((Int.toNat ((Zv xs xs.length:Nat):Int))-0)*1) (List.drop (0*1) (lm xs)))]):=Zd.of_bodyW (fn:=Zbp) (s:=(dds 1 (.box [.bool true, .sl xs.length (lm xs)]::(.val (.bool (decide (((Zv xs xs.length:Nat):Int)>0)))::(.val (.sl ((Int.toNat ((Zv xs xs.length:Nat):Int))-0) (List.take (((Int.toNat ((Zv xs xs.length:Nat):Int))-0)*1) (List.drop (0*1) (lm xs))))::(.val (.int .i64 ((Zv xs xs.length:Nat):Int))::(dds 16 (.ptr 1 0::(.val (.bool true)::(.val (.bool true)::(.val (.int .i64 ((Zv xs xs.length:Nat):Int))::(.val (.bool (decide (((Zv xs xs.length:Nat):Int)>0)))::(.val (.bool (decide (((Zv xs xs.length:Nat):Int)>0)))::(.ptr 1 1::(.val (.sl xs.length (lm xs))::(.val (.int .i64 ((Zv xs xs.length:Nat):Int))::(.val (.sl ((Int.toNat ((Zv xs xs.length:Nat):Int))-0) (List.take (((Int.toNat ((Zv xs xs.length:Nat):Int))-0)*1) (List.drop (0*1) (lm xs))))::[]))))))))))))))))) (ex := .ret) rfl rfl (Za.seq (Za.script (t:=(.val (.agg [.bool true, .sl xs.length (lm xs)])::(.box [.bool true, .sl xs.length (lm xs)]::(.val (.bool false)::(.own 1 0 []::(dds 27 [])))))) (ps:=[]) Qh 300 [] [0,1,2,3] (by kernel_rfl) trivial) (Za.seq (Za.script (t:=(dds 1 (.box [.bool true, .sl xs.length (lm xs)]::(.val (.bool false)::(.own 1 0 []::(vi (xs.length:Int)::(dds 26 []))))))) (ps:=[]) Qh 300 [] [1,2,3,4] (by kernel_rfl) trivial) (Za.seq (Za.block hl) (Za.script (t:=(dds 1 (.box [.bool true, .sl xs.length (lm xs)]::(.val (.bool (decide (((Zv xs xs.length:Nat):Int)>0)))::(.val (.sl ((Int.toNat ((Zv xs xs.length:Nat):Int))-0) (List.take (((Int.toNat ((Zv xs xs.length:Nat):Int))-0)*1) (List.drop (0*1) (lm xs))))::(vi ((Zv xs xs.length:Nat):Int)::(dds 16 (.ptr 1 0::(.val (.bool true)::(.val (.bool true)::(vi ((Zv xs xs.length:Nat):Int)::(.val (.bool (decide (((Zv xs xs.length:Nat):Int)>0)))::(.val (.bool (decide (((Zv xs xs.length:Nat):Int)>0)))::(.ptr 1 1::(vl xs::(vi ((Zv xs xs.length:Nat):Int)::(.val (.sl ((Int.toNat ((Zv xs xs.length:Nat):Int))-0) (List.take (((Int.toNat ((Zv xs xs.length:Nat):Int))-0)*1) (List.drop (0*1) (lm xs))))::[]))))))))))))))))) (ex := .ret) (ps:=[true=true,0≤((Zv xs xs.length:Nat):Int),0≤(Int.toNat ((Zv xs xs.length:Nat):Int))∧(Int.toNat ((Zv xs xs.length:Nat):Int))≤xs.length∧xs.length≤xs.length∧(false=true→true=true)]) Qh 300 [.b true] [1,2,3,4,21,22,23,24,25,26,27,28,29,30] (by kernel_rfl) ⟨rfl,(Int.natCast_nonneg _),hsc,trivial⟩)))) (by intro i e;cases e) rfl
theorem Ny (xs:List Int) (hl:Za Yir (.loop R1) (Dk false xs.length (lm xs) (xs.length:Int)) (.exit 0) (Dk false xs.length (lm xs) ((Zv xs xs.length:Nat):Int))) (hsc:0≤(Int.toNat ((Zv xs xs.length:Nat):Int))∧(Int.toNat ((Zv xs xs.length:Nat):Int))≤xs.length∧xs.length≤xs.length∧(false=true→true=true)):Zd Yir 122 [.agg [.bool false, .sl xs.length (lm xs)]] (.tup [.bool false, .sl ((Int.toNat ((Zv xs xs.length:Nat):Int))-0) (List.take (((Int.toNat ((Zv xs xs.length:Nat):Int))-0)*1) (List.drop (0*1) (lm xs)))]):=Zd.of_bodyW (fn:=Zbp) (s:=(dds 1 (.box [.bool false, .sl xs.length (lm xs)]::(.val (.bool false)::(.val (.sl ((Int.toNat ((Zv xs xs.length:Nat):Int))-0) (List.take (((Int.toNat ((Zv xs xs.length:Nat):Int))-0)*1) (List.drop (0*1) (lm xs))))::(.val (.int .i64 ((Zv xs xs.length:Nat):Int))::(dds 16 (.ptr 1 0::(.val (.bool false)::(.val (.bool false)::(.val (.undef)::(.val (.undef)::(.val (.bool false)::(.ptr 1 1::(.val (.sl xs.length (lm xs))::(.val (.int .i64 ((Zv xs xs.length:Nat):Int))::(.val (.sl ((Int.toNat ((Zv xs xs.length:Nat):Int))-0) (List.take (((Int.toNat ((Zv xs xs.length:Nat):Int))-0)*1) (List.drop (0*1) (lm xs))))::[]))))))))))))))))) (ex := .ret) rfl rfl (Za.seq (Za.script (t:=(.val (.agg [.bool false, .sl xs.length (lm xs)])::(.box [.bool false, .sl xs.length (lm xs)]::(.val (.bool false)::(.own 1 0 []::(dds 27 [])))))) (ps:=[]) Qh 300 [] [0,1,2,3] (by kernel_rfl) trivial) (Za.seq (Za.script (t:=(dds 1 (.box [.bool false, .sl xs.length (lm xs)]::(.val (.bool false)::(.own 1 0 []::(vi (xs.length:Int)::(dds 26 []))))))) (ps:=[]) Qh 300 [] [1,2,3,4] (by kernel_rfl) trivial) (Za.seq (Za.block hl) (Za.script (t:=(dds 1 (.box [.bool false, .sl xs.length (lm xs)]::(.val (.bool false)::(.val (.sl ((Int.toNat ((Zv xs xs.length:Nat):Int))-0) (List.take (((Int.toNat ((Zv xs xs.length:Nat):Int))-0)*1) (List.drop (0*1) (lm xs))))::(vi ((Zv xs xs.length:Nat):Int)::(dds 16 (.ptr 1 0::(.val (.bool false)::(.val (.bool false)::(.val (.undef)::(.val (.undef)::(.val (.bool false)::(.ptr 1 1::(vl xs::(vi ((Zv xs xs.length:Nat):Int)::(.val (.sl ((Int.toNat ((Zv xs xs.length:Nat):Int))-0) (List.take (((Int.toNat ((Zv xs xs.length:Nat):Int))-0)*1) (List.drop (0*1) (lm xs))))::[]))))))))))))))))) (ex := .ret) (ps:=[false=false,0≤((Zv xs xs.length:Nat):Int),0≤(Int.toNat ((Zv xs xs.length:Nat):Int))∧(Int.toNat ((Zv xs xs.length:Nat):Int))≤xs.length∧xs.length≤xs.length∧(false=true→true=true)]) Qh 300 [.b false] [1,2,3,4,21,22,23,24,25,26,27,28,29,30] (by kernel_rfl) ⟨rfl,(Int.natCast_nonneg _),hsc,trivial⟩)))) (by intro i e;cases e) rfl
theorem Zb3 (xs:List Int):(Int.toNat ((Zv xs xs.length:Nat):Int)-0)=(Ze xs).length∧(List.take ((Int.toNat ((Zv xs xs.length:Nat):Int)-0)*1) (List.drop (0*1) (lm xs)))=lm (Ze xs)∧(0≤(Int.toNat ((Zv xs xs.length:Nat):Int))∧(Int.toNat ((Zv xs xs.length:Nat):Int))≤xs.length∧xs.length≤xs.length∧(false=true→true=true)):=by
 have hle:=We xs xs.length
 rw[Int.toNat_natCast]
 refine⟨by simp[Ze];omega,by simp[lm,Ze,List.map_take],by omega,hle,Nat.le_refl _,fun h=>by cases h⟩
theorem Jd {neg:Bool} {xs:List Int} (hu:U32 xs) (hN:xs.length≤1048576):Zd Yir 122 [.agg [.bool neg, .sl xs.length (lm xs)]]
  (.tup [.bool (decide (rv neg xs<0)), .sl (Zb (rv neg xs).natAbs).length (lm (Zb (rv neg xs).natAbs))]):=by
 obtain⟨e1,e2,e3⟩:=Zb3 xs
 have ht:=E3 (neg:=neg) hu
 have hn:=Znc (neg:=neg) hu
 have hlen:(Ze xs).length=Zv xs xs.length:=by rw[← e1,Int.toNat_natCast];rfl
 cases neg with
 | true =>
  have h:=Ls xs (Tp true xs hN xs.length (Nat.le_refl _)) e3
  rw[e2,e1,ht] at h
  have e4:decide (((Zv xs xs.length:Nat):Int)>0)=decide (rv true xs<0):=by
   rw[← hn,Bool.true_and,← ht,hlen,decide_eq_decide];omega
  rw[e4] at h
  exact h
 | false =>
  have h:=Ny xs (Tp false xs hN xs.length (Nat.le_refl _)) e3
  rw[e2,e1,ht] at h
  rw[Bool.false_and] at hn
  rw[← hn]
  exact h
def Dj (neg:Bool) (N:Nat) (cs:List AV) (n:Int):Zk:=(.val (.bool neg)::(.val (.sl N cs)::(dds 2 (.box [.bool false, .sl 0 []]::(.val (.int .i64 n)::(dds 23 []))))))
theorem Zq7 (neg:Bool) (N:Nat) (cs:List AV) (n:Int) (x:Int) (c1:(decide (n>0))=true) (c2:(x==0)=true) (n1:0≤(i64.wrap (n-1))∧(i64.wrap (n-1))<(N:Int)) (n2:Zx (List.drop (Int.toNat (i64.wrap (n-1))*1) cs) 0 1 true=some (.int .u32 x)):Za Yir R0 (Dj neg N cs n) .norm (Dj neg N cs (i64.wrap (n-1))):=Za.script (ps:=[(decide (n>0))=true,0≤(i64.wrap (n-1))∧(i64.wrap (n-1))<(N:Int),Zx (List.drop (Int.toNat (i64.wrap (n-1))*1) cs) 0 1 true=some (.int .u32 x),(x==0)=true]) Qh 300 [.b true, .v (.int .u32 x), .b true] [0,1,4,5] (by kernel_rfl) ⟨c1,n1,n2,c2,trivial⟩
theorem Zq6 (neg:Bool) (N:Nat) (cs:List AV) (n:Int) (x:Int) (c1:(decide (n>0))=true) (c2:(x==0)=false) (n1:0≤(i64.wrap (n-1))∧(i64.wrap (n-1))<(N:Int)) (n2:Zx (List.drop (Int.toNat (i64.wrap (n-1))*1) cs) 0 1 true=some (.int .u32 x)):Za Yir R0 (Dj neg N cs n) (.exit 0) (Dj neg N cs n):=Za.script (ps:=[(decide (n>0))=true,0≤(i64.wrap (n-1))∧(i64.wrap (n-1))<(N:Int),Zx (List.drop (Int.toNat (i64.wrap (n-1))*1) cs) 0 1 true=some (.int .u32 x),(x==0)=false]) Qh 300 [.b true, .v (.int .u32 x), .b false] [0,1,4,5] (by kernel_rfl) ⟨c1,n1,n2,c2,trivial⟩
theorem Zq5 (neg:Bool) (N:Nat) (cs:List AV) (n:Int) (c1:(decide (n>0))=false):Za Yir R0 (Dj neg N cs n) (.exit 0) (Dj neg N cs n):=Za.script (ps:=[(decide (n>0))=false,false=false]) Qh 300 [.b false, .b false] [0,1,4,5] (by kernel_rfl) ⟨c1,rfl,trivial⟩
theorem Zkn (neg:Bool) (xs:List Int) (hN:xs.length≤1048576):∀ m,m≤xs.length→Za Yir (.loop R0) (Dj neg xs.length (lm xs) (m:Int)) (.exit 0) (Dj neg xs.length (lm xs) ((Zv xs m:Nat):Int)):=by
 intro m
 induction m with
 | zero =>
  intro _
  exact Za.loop_out (Zq5 neg xs.length (lm xs) ((0:Nat):Int) (by simp)) (by intro e;cases e)
 | succ m ih =>
  intro hm
  have e1:i64.wrap (((m+1:Nat):Int)-1)=(m:Int):=by rw[w64 (by omega) (by omega)];omega
  have hx:=Ju (xs:=xs) (i:=m) (by omega)
  simp only[Zv]
  by_cases h0:xs.getD m 0=0
  ·rw[if_pos h0]
   have h1:=Zq7 neg xs.length (lm xs) ((m+1:Nat):Int) (xs.getD m 0) (by simp) (by rw[h0];rfl) (by rw[e1];omega) (by rw[e1,Int.toNat_natCast];exact hx)
   rw[e1] at h1
   exact Za.loop h1 (ih (by omega))
  ·rw[if_neg h0]
   exact Za.loop_out (Zq6 neg xs.length (lm xs) ((m+1:Nat):Int) (xs.getD m 0) (by simp) (by simpa using h0) (by rw[e1];omega) (by rw[e1,Int.toNat_natCast];exact hx)) (by intro e;cases e)
theorem Zfd (neg:Bool) (xs:List Int) (hz:(((Zv xs xs.length:Nat):Int)==0)=true) (hl:Za Yir (.loop R0) (Dj neg xs.length (lm xs) (xs.length:Int)) (.exit 0) (Dj neg xs.length (lm xs) ((Zv xs xs.length:Nat):Int))):Zd Yir 133 [.bool neg, .sl xs.length (lm xs)] (.agg [.bool false, .sl 0 []]):=Zd.of_bodyW (fn:=Zbn) (s:=(.val (.bool neg)::(.val (.sl xs.length (lm xs))::(dds 2 (.box [.bool false, .sl 0 []]::(.val (.int .i64 ((Zv xs xs.length:Nat):Int))::(dds 14 (.val (.int .i64 ((Zv xs xs.length:Nat):Int))::(.val (.bool (((Zv xs xs.length:Nat):Int)==0))::(.val (.agg [.bool false, .sl 0 []])::(dds 6 []))))))))))) (ex := .ret) rfl rfl (Za.seq (Za.script (t:=(.val (.bool neg)::(vl xs::(dds 2 (.box [.bool false, .sl 0 []]::(dds 24 [])))))) (ps:=[]) Qh 300 [] [0,1,4] (by kernel_rfl) trivial) (Za.seq (Za.script (t:=(.val (.bool neg)::(vl xs::(dds 2 (.box [.bool false, .sl 0 []]::(vi (xs.length:Int)::(dds 23 []))))))) (ps:=[]) Qh 300 [] [0,1,4,5] (by kernel_rfl) trivial) (Za.seq (Za.block hl) (Za.script (t:=(.val (.bool neg)::(vl xs::(dds 2 (.box [.bool false, .sl 0 []]::(vi ((Zv xs xs.length:Nat):Int)::(dds 14 (vi ((Zv xs xs.length:Nat):Int)::(.val (.bool (((Zv xs xs.length:Nat):Int)==0))::(.val (.agg [.bool false, .sl 0 []])::(dds 6 []))))))))))) (ex := .ret) (ps:=[(((Zv xs xs.length:Nat):Int)==0)=true]) Qh 300 [.b true] [0,1,4,5,20,21,22] (by kernel_rfl) ⟨hz,trivial⟩)))) (by intro i e;cases e) rfl
theorem Zfe (neg:Bool) (xs:List Int) (hz:(((Zv xs xs.length:Nat):Int)==0)=false) (hl:Za Yir (.loop R0) (Dj neg xs.length (lm xs) (xs.length:Int)) (.exit 0) (Dj neg xs.length (lm xs) ((Zv xs xs.length:Nat):Int))) (hsc:0≤(Int.toNat ((Zv xs xs.length:Nat):Int))∧(Int.toNat ((Zv xs xs.length:Nat):Int))≤(Int.toNat ((Zv xs xs.length:Nat):Int))∧(Int.toNat ((Zv xs xs.length:Nat):Int))≤xs.length∧(true=true→true=true)):Zd Yir 133 [.bool neg, .sl xs.length (lm xs)] (.agg [.bool neg, .sl ((Int.toNat ((Zv xs xs.length:Nat):Int))-0) (List.take (((Int.toNat ((Zv xs xs.length:Nat):Int))-0)*1) (List.drop (0*1) (lm xs)))]):=Zd.of_bodyW (fn:=Zbn) (s:=(.val (.bool neg)::(.val (.sl xs.length (lm xs))::(dds 2 (.box [.bool neg, .sl ((Int.toNat ((Zv xs xs.length:Nat):Int))-0) (List.take (((Int.toNat ((Zv xs xs.length:Nat):Int))-0)*1) (List.drop (0*1) (lm xs)))]::(.val (.int .i64 ((Zv xs xs.length:Nat):Int))::(dds 14 (.val (.int .i64 ((Zv xs xs.length:Nat):Int))::(.val (.bool (((Zv xs xs.length:Nat):Int)==0))::(dds 1 (.val (.bool neg)::(.val (.sl xs.length (lm xs))::(.val (.int .i64 ((Zv xs xs.length:Nat):Int))::(.val (.int .i64 ((Zv xs xs.length:Nat):Int))::(.val (.sl ((Int.toNat ((Zv xs xs.length:Nat):Int))-0) (List.take (((Int.toNat ((Zv xs xs.length:Nat):Int))-0)*1) (List.drop (0*1) (lm xs))))::(.val (.agg [.bool neg, .sl ((Int.toNat ((Zv xs xs.length:Nat):Int))-0) (List.take (((Int.toNat ((Zv xs xs.length:Nat):Int))-0)*1) (List.drop (0*1) (lm xs)))])::[])))))))))))))))) (ex := .ret) rfl rfl (Za.seq (Za.script (t:=(.val (.bool neg)::(vl xs::(dds 2 (.box [.bool false, .sl 0 []]::(dds 24 [])))))) (ps:=[]) Qh 300 [] [0,1,4] (by kernel_rfl) trivial) (Za.seq (Za.script (t:=(.val (.bool neg)::(vl xs::(dds 2 (.box [.bool false, .sl 0 []]::(vi (xs.length:Int)::(dds 23 []))))))) (ps:=[]) Qh 300 [] [0,1,4,5] (by kernel_rfl) trivial) (Za.seq (Za.block hl) (Za.script (t:=(.val (.bool neg)::(vl xs::(dds 2 (.box [.bool neg, .sl ((Int.toNat ((Zv xs xs.length:Nat):Int))-0) (List.take (((Int.toNat ((Zv xs xs.length:Nat):Int))-0)*1) (List.drop (0*1) (lm xs)))]::(vi ((Zv xs xs.length:Nat):Int)::(dds 14 (vi ((Zv xs xs.length:Nat):Int)::(.val (.bool (((Zv xs xs.length:Nat):Int)==0))::(dds 1 (.val (.bool neg)::(vl xs::(vi ((Zv xs xs.length:Nat):Int)::(vi ((Zv xs xs.length:Nat):Int)::(.val (.sl ((Int.toNat ((Zv xs xs.length:Nat):Int))-0) (List.take (((Int.toNat ((Zv xs xs.length:Nat):Int))-0)*1) (List.drop (0*1) (lm xs))))::(.val (.agg [.bool neg, .sl ((Int.toNat ((Zv xs xs.length:Nat):Int))-0) (List.take (((Int.toNat ((Zv xs xs.length:Nat):Int))-0)*1) (List.drop (0*1) (lm xs)))])::[])))))))))))))))) (ex := .ret) (ps:=[(((Zv xs xs.length:Nat):Int)==0)=false,0≤((Zv xs xs.length:Nat):Int),0≤((Zv xs xs.length:Nat):Int),0≤(Int.toNat ((Zv xs xs.length:Nat):Int))∧(Int.toNat ((Zv xs xs.length:Nat):Int))≤(Int.toNat ((Zv xs xs.length:Nat):Int))∧(Int.toNat ((Zv xs xs.length:Nat):Int))≤xs.length∧(true=true→true=true)]) Qh 300 [.b false] [0,1,4,5,20,21,23,24,25,26,27,28] (by kernel_rfl) ⟨hz,(Int.natCast_nonneg _),(Int.natCast_nonneg _),hsc,trivial⟩)))) (by intro i e;cases e) rfl
theorem Xv {neg:Bool} {xs:List Int} (hu:U32 xs) (hN:xs.length≤1048576):Zd Yir 133 [.bool neg, .sl xs.length (lm xs)] (Zp (rv neg xs)):=by
 obtain⟨e1,e2,e3⟩:=Zb3 xs
 have ht:=E3 (neg:=neg) hu
 have hn:=Znc (neg:=neg) hu
 have hlen:(Ze xs).length=Zv xs xs.length:=by rw[← e1,Int.toNat_natCast];rfl
 have hl:=Zkn neg xs hN xs.length (Nat.le_refl _)
 by_cases h0:Zv xs xs.length=0
 ·have h:=Zfd neg xs (by rw[h0];rfl) hl
  have hz:(Zb (rv neg xs).natAbs).length=0:=by rw[← ht,hlen,h0]
  have hv:rv neg xs=0:=by have:=(Jx _).1 hz;omega
  rw[hv]
  exact h
 ·have h:=Zfe neg xs (by rw[beq_eq_false_iff_ne];omega) hl ⟨e3.1,Nat.le_refl _,e3.2.1,fun _=>rfl⟩
  rw[e2,e1,ht] at h
  have hp:decide (0<(Zb (rv neg xs).natAbs).length)=true:=by rw[← ht,hlen];simp;omega
  rw[hp,Bool.and_true] at hn
  rw[Zp,← hn]
  exact h
theorem Zjp (n:Int) (c1:decide (n<0)=true) (hcall:Zd Yir 133 [.bool (decide (n<0)), .sl 2 [.int .u32 (u32.wrap (u64.wrap (0-(u64.wrap n)))), .int .u32 (u32.wrap (Int.fdiv (u64.wrap (0-(u64.wrap n))) (2^(min (Int.toNat 32) (IntKind.bits .u64)))))]] (.agg [.bool (decide (n<0)), .sl ((Zb (Int.natAbs n)).length) (lm (Zb (Int.natAbs n)))])):Zd Yir 94 [.int .i64 n] (.agg [.bool (decide (n<0)), .sl ((Zb (Int.natAbs n)).length) (lm (Zb (Int.natAbs n)))]):=Zd.script (ps:=[(decide (n<0))=true,¬ (32:Int)<0,Zd Yir 133 [.bool (decide (n<0)), .sl 2 [.int .u32 (u32.wrap (u64.wrap (0-(u64.wrap n)))), .int .u32 (u32.wrap (Int.fdiv (u64.wrap (0-(u64.wrap n))) (2^(min (Int.toNat 32) (IntKind.bits .u64)))))]] (.agg [.bool (decide (n<0)), .sl ((Zb (Int.natAbs n)).length) (lm (Zb (Int.natAbs n)))])]) Qh rfl 300 rfl [.b true, .r (.agg [.bool (decide (n<0)), .sl ((Zb (Int.natAbs n)).length) (lm (Zb (Int.natAbs n)))])] (by kernel_rfl) ⟨c1,(by decide),hcall,trivial⟩
theorem Zjo (n:Int) (c1:decide (n<0)=false) (hcall:Zd Yir 133 [.bool (decide (n<0)), .sl 2 [.int .u32 (u32.wrap (u64.wrap n)), .int .u32 (u32.wrap (Int.fdiv (u64.wrap n) (2^(min (Int.toNat 32) (IntKind.bits .u64)))))]] (.agg [.bool (decide (n<0)), .sl ((Zb (Int.natAbs n)).length) (lm (Zb (Int.natAbs n)))])):Zd Yir 94 [.int .i64 n] (.agg [.bool (decide (n<0)), .sl ((Zb (Int.natAbs n)).length) (lm (Zb (Int.natAbs n)))]):=Zd.script (ps:=[(decide (n<0))=false,¬ (32:Int)<0,Zd Yir 133 [.bool (decide (n<0)), .sl 2 [.int .u32 (u32.wrap (u64.wrap n)), .int .u32 (u32.wrap (Int.fdiv (u64.wrap n) (2^(min (Int.toNat 32) (IntKind.bits .u64)))))]] (.agg [.bool (decide (n<0)), .sl ((Zb (Int.natAbs n)).length) (lm (Zb (Int.natAbs n)))])]) Qh rfl 300 rfl [.b false, .r (.agg [.bool (decide (n<0)), .sl ((Zb (Int.natAbs n)).length) (lm (Zb (Int.natAbs n)))])] (by kernel_rfl) ⟨c1,(by decide),hcall,trivial⟩
theorem Zn5 {n:Int} (hn : -9223372036854775808≤n∧n≤9223372036854775807):Zd Yir 94 [.int .i64 n] (Zp n):=by
 cases c1:decide (n<0) with
 | true =>
  have h0:n<0:=by simpa using c1
  have eu:(u64.wrap (0-u64.wrap n)) = -n:=by rw[Ql,Ql];omega
  obtain⟨k1,k2⟩:=Gq (u:=(u64.wrap (0-u64.wrap n))) (by rw[eu];omega)
  refine Zjp n c1 ?_
  have:=Xv (neg:=true) k1 (by simp)
  have e:rv true [u32.wrap (u64.wrap (0-u64.wrap n)),u32.wrap (Int.fdiv (u64.wrap (0-u64.wrap n)) (2^(min (Int.toNat 32) (IntKind.bits .u64))))]=n:=by
   unfold rv;rw[k2,if_pos rfl,eu];omega
  rw[e,Zp,c1] at this
  rw[c1]
  exact this
 | false =>
  have h0:¬ n<0:=by simpa using c1
  have eu:u64.wrap n=n:=by rw[Ql];omega
  obtain⟨k1,k2⟩:=Gq (u:=u64.wrap n) (by rw[eu];omega)
  refine Zjo n c1 ?_
  have:=Xv (neg:=false) k1 (by simp)
  have e:rv false [u32.wrap (u64.wrap n),u32.wrap (Int.fdiv (u64.wrap n) (2^(min (Int.toNat 32) (IntKind.bits .u64))))]=n:=by
   unfold rv;rw[if_neg (by decide),k2,eu]
  rw[e,Zp,c1] at this
  rw[c1]
  exact this
theorem Zpf (neg:Bool) (xs:List Int) (a r:Int) (h1:Zd Yir 122 [.agg [.bool neg, .sl xs.length (lm xs)]] (.tup [.bool (decide (a<0)), .sl ((Zb (Int.natAbs a)).length) (lm (Zb (Int.natAbs a)))])) (h2:Zd Yir 133 [.bool (decide (a<0)), .sl (Zb (Int.natAbs a)).length (lm (Zb (Int.natAbs a)))] (.agg [.bool (decide (r<0)), .sl ((Zb (Int.natAbs r)).length) (lm (Zb (Int.natAbs r)))])) (hal:List.length (lm (Zb (Int.natAbs a)))=(Zb (Int.natAbs a)).length*1) (han:(Zb (Int.natAbs a)).length≤1048576):Zd Yir 132 [.agg [.bool neg, .sl xs.length (lm xs)]] (.agg [.bool (decide (r<0)), .sl ((Zb (Int.natAbs r)).length) (lm (Zb (Int.natAbs r)))]):=Zd.script (ps:=[Zd Yir 122 [.agg [.bool neg, .sl xs.length (lm xs)]] (.tup [.bool (decide (a<0)), .sl ((Zb (Int.natAbs a)).length) (lm (Zb (Int.natAbs a)))]),List.length (lm (Zb (Int.natAbs a)))=((Zb (Int.natAbs a)).length)*1,((Zb (Int.natAbs a)).length)≤1048576,Zd Yir 133 [.bool (decide (a<0)), .sl ((Zb (Int.natAbs a)).length) (lm (Zb (Int.natAbs a)))] (.agg [.bool (decide (r<0)), .sl ((Zb (Int.natAbs r)).length) (lm (Zb (Int.natAbs r)))])]) Qh rfl 300 rfl [.r (.tup [.bool (decide (a<0)), .sl ((Zb (Int.natAbs a)).length) (lm (Zb (Int.natAbs a)))]), .r (.agg [.bool (decide (r<0)), .sl ((Zb (Int.natAbs r)).length) (lm (Zb (Int.natAbs r)))])] (by kernel_rfl) ⟨h1,hal,han,h2,trivial⟩
theorem Zpm (neg:Bool) (xs:List Int) (a r:Int) (h1:Zd Yir 122 [.agg [.bool neg, .sl xs.length (lm xs)]] (.tup [.bool (decide (a<0)), .sl ((Zb (Int.natAbs a)).length) (lm (Zb (Int.natAbs a)))])) (h2:Zd Yir 133 [.bool (!(decide (a<0))), .sl (Zb (Int.natAbs a)).length (lm (Zb (Int.natAbs a)))] (.agg [.bool (decide (r<0)), .sl ((Zb (Int.natAbs r)).length) (lm (Zb (Int.natAbs r)))])) (hal:List.length (lm (Zb (Int.natAbs a)))=(Zb (Int.natAbs a)).length*1) (han:(Zb (Int.natAbs a)).length≤1048576):Zd Yir 112 [.agg [.bool neg, .sl xs.length (lm xs)]] (.agg [.bool (decide (r<0)), .sl ((Zb (Int.natAbs r)).length) (lm (Zb (Int.natAbs r)))]):=Zd.script (ps:=[Zd Yir 122 [.agg [.bool neg, .sl xs.length (lm xs)]] (.tup [.bool (decide (a<0)), .sl ((Zb (Int.natAbs a)).length) (lm (Zb (Int.natAbs a)))]),List.length (lm (Zb (Int.natAbs a)))=((Zb (Int.natAbs a)).length)*1,((Zb (Int.natAbs a)).length)≤1048576,Zd Yir 133 [.bool (!(decide (a<0))), .sl ((Zb (Int.natAbs a)).length) (lm (Zb (Int.natAbs a)))] (.agg [.bool (decide (r<0)), .sl ((Zb (Int.natAbs r)).length) (lm (Zb (Int.natAbs r)))])]) Qh rfl 300 rfl [.r (.tup [.bool (decide (a<0)), .sl ((Zb (Int.natAbs a)).length) (lm (Zb (Int.natAbs a)))]), .r (.agg [.bool (decide (r<0)), .sl ((Zb (Int.natAbs r)).length) (lm (Zb (Int.natAbs r)))])] (by kernel_rfl) ⟨h1,hal,han,h2,trivial⟩
theorem S3 (xs:List Int):List.length (lm xs)=xs.length*1:=by rw [Fj,Nat.mul_one]
theorem rv_pos (n:Int):rv false (Zb n.natAbs)=(n.natAbs:Int):=by unfold rv;rw [if_neg (by decide),J6]
theorem Zm8 (n:Int):rv (!decide (n<0)) (Zb n.natAbs) = -n:=by
 unfold rv
 rw[J6]
 by_cases h:n<0 <;> simp[h] <;> omega
theorem Zbx {neg:Bool} {xs:List Int} (hu:U32 xs) (hN:xs.length≤1048576):Zd Yir 132 [.agg [.bool neg, .sl xs.length (lm xs)]] (Zp (rv neg xs)):=by
 have hl:(Zb (rv neg xs).natAbs).length≤1048576:=Nat.le_trans (U7 hu) hN
 have h2:=Xv (neg:=decide (rv neg xs<0)) (Jr (rv neg xs).natAbs) hl
 rw[Ho] at h2
 exact Zpf neg xs (rv neg xs) (rv neg xs) (Jd hu hN) h2 (S3 _) hl
theorem R4 {neg:Bool} {xs:List Int} (hu:U32 xs) (hN:xs.length≤1048576):Zd Yir 112 [.agg [.bool neg, .sl xs.length (lm xs)]] (Zp (-(rv neg xs))):=by
 have hl:(Zb (rv neg xs).natAbs).length≤1048576:=Nat.le_trans (U7 hu) hN
 have h2:=Xv (neg := !decide (rv neg xs<0)) (Jr (rv neg xs).natAbs) hl
 rw[Zm8] at h2
 exact Zpm neg xs (rv neg xs) (-(rv neg xs)) (Jd hu hN) h2 (S3 _) hl
def Zjk (a:Int):AV :=
 match (((Zb (Int.natAbs a)).length:Nat):Int)==0 with
 | true=>(.int .i64 0)
 | false=>(match decide (a<0) with
 | true=>(.int .i64 (-1))
 | false=>(.int .i64 1))
theorem Yrun73 (neg:Bool) (xs:List Int) (a:Int) (h1:Zd Yir 122 [.agg [.bool neg, .sl xs.length (lm xs)]] (.tup [.bool (decide (a<0)), .sl ((Zb (Int.natAbs a)).length) (lm (Zb (Int.natAbs a)))])):Zd Yir 73 [.agg [.bool neg, .sl xs.length (lm xs)]] (Zjk a):=by
 unfold Zjk
 cases c1:((((Zb (Int.natAbs a)).length:Nat):Int)==0)
 ·cases c2:(decide (a<0))
  ·exact Zd.script (r := .int .i64 1) (ps:=[Zd Yir 122 [.agg [.bool neg, .sl xs.length (lm xs)]] (.tup [.bool (decide (a<0)), .sl ((Zb (Int.natAbs a)).length) (lm (Zb (Int.natAbs a)))]),((((Zb (Int.natAbs a)).length:Nat):Int)==0)=false,(decide (a<0))=false]) Qh rfl 300 rfl [.r (.tup [.bool (decide (a<0)), .sl ((Zb (Int.natAbs a)).length) (lm (Zb (Int.natAbs a)))]), .b false, .b false] (by kernel_rfl) ⟨h1,c1,c2,trivial⟩
  ·exact Zd.script (r := .int .i64 (-1)) (ps:=[Zd Yir 122 [.agg [.bool neg, .sl xs.length (lm xs)]] (.tup [.bool (decide (a<0)), .sl ((Zb (Int.natAbs a)).length) (lm (Zb (Int.natAbs a)))]),((((Zb (Int.natAbs a)).length:Nat):Int)==0)=false,(decide (a<0))=true]) Qh rfl 300 rfl [.r (.tup [.bool (decide (a<0)), .sl ((Zb (Int.natAbs a)).length) (lm (Zb (Int.natAbs a)))]), .b false, .b true] (by kernel_rfl) ⟨h1,c1,c2,trivial⟩
 ·exact Zd.script (r := .int .i64 0) (ps:=[Zd Yir 122 [.agg [.bool neg, .sl xs.length (lm xs)]] (.tup [.bool (decide (a<0)), .sl ((Zb (Int.natAbs a)).length) (lm (Zb (Int.natAbs a)))]),((((Zb (Int.natAbs a)).length:Nat):Int)==0)=true]) Qh rfl 300 rfl [.r (.tup [.bool (decide (a<0)), .sl ((Zb (Int.natAbs a)).length) (lm (Zb (Int.natAbs a)))]), .b true] (by kernel_rfl) ⟨h1,c1,trivial⟩
theorem Gc {neg:Bool} {xs:List Int} (hu:U32 xs) (hN:xs.length≤1048576):Zd Yir 73 [.agg [.bool neg, .sl xs.length (lm xs)]] (.int .i64 (Vp (rv neg xs))):=by
 have h:=Yrun73 neg xs (rv neg xs) (Jd hu hN)
 have e:Zjk (rv neg xs) = .int .i64 (Vp (rv neg xs)):=by
  unfold Zjk Vp
  have hz:=Jx (rv neg xs).natAbs
  by_cases h0:rv neg xs=0
  ·rw[h0];rfl
  ·have e1:((((Zb (rv neg xs).natAbs).length:Nat):Int)==0)=false:=by rw[beq_eq_false_iff_ne];omega
   rw[e1]
   by_cases h1:rv neg xs<0
   ·simp[h1]
   ·have h2:0<rv neg xs:=by omega
    simp[h1,h2]
 rw[← e];exact h
def TWA:Js:=TQ0
theorem Zr:Qt Yir TWA:=Qh
end Go.Proofs.Ythnnfemologhfaa
