/- Texts of the proof of PolyExact, packed by pack.py: part 9 of 19. -/
import Derived.Test.YthnnfemologhfaaPex8
namespace Go.Proofs.Ythnnfemologhfaa
open Go.IntKind (i64 u64 u32)
open Go.Ai
set_option maxRecDepth 100000
def Yso141 (la:Nat) (xa:List AV) (lb:Nat) (bs:List AV) (n:Nat) (cs:List AV) (i:Int):State:=(.val (.sl la xa)::(.val (.sl lb bs)::(dds 2 (.own 1 0 []::(.own 1 n cs::(.val (.int .i64 i)::(dds 59 [])))))))
def Ysi141 (la:Nat) (xa:List AV) (lb:Nat) (bs:List AV) (n:Nat) (cs:List AV) (i c k:Int):State:=(.val (.sl la xa)::(.val (.sl lb bs)::(dds 2 (.own 1 0 []::(.own 1 n cs::(.val (.int .i64 i)::(.val (.int .u64 c)::(.val (.int .i64 k)::(dds 57 [])))))))))
theorem Yki141_1 (la:Nat) (xa:List AV) (lb:Nat) (bs:List AV) (n:Nat) (cs ds:List AV) (i c k x y z:Int) (c1:(decide (k<(lb:Int)))=true) (n1:0≤(i64.wrap (i+k))∧(i64.wrap (i+k))<(n:Int)) (n2:takeA cs (Int.toNat (i64.wrap (i+k))*1) 1 true=some (.int .u32 z)) (n3:0≤i∧i<(la:Int)) (n4:takeA (List.drop (Int.toNat i*1) xa) 0 1 true=some (.int .u32 x)) (n5:0≤k∧k<(lb:Int)) (n6:takeA (List.drop (Int.toNat k*1) bs) 0 1 true=some (.int .u32 y)) (n7:0≤(i64.wrap (i+k))∧(i64.wrap (i+k))<(n:Int)) (n8:layA cs (Int.toNat (i64.wrap (i+k))*1) [.int .u32 (u32.wrap (u64.wrap (c+(u64.wrap ((u64.wrap z)+(u64.wrap ((u64.wrap x)*(u64.wrap y))))))))]=some ds):RunsW Yir Yci141 (Ysi141 la xa lb bs n cs i c k) .norm (Ysi141 la xa lb bs n ds i (Int.fdiv (u64.wrap (c+(u64.wrap ((u64.wrap z)+(u64.wrap ((u64.wrap x)*(u64.wrap y))))))) (2^(min (Int.toNat 32) (IntKind.bits .u64)))) (i64.wrap (k+1))):=RunsW.script (ps:=[(decide (k<(lb:Int)))=true,0≤(i64.wrap (i+k))∧(i64.wrap (i+k))<(n:Int),takeA cs (Int.toNat (i64.wrap (i+k))*1) 1 true=some (.int .u32 z),0≤i∧i<(la:Int),takeA (List.drop (Int.toNat i*1) xa) 0 1 true=some (.int .u32 x),0≤k∧k<(lb:Int),takeA (List.drop (Int.toNat k*1) bs) 0 1 true=some (.int .u32 y),0≤(i64.wrap (i+k))∧(i64.wrap (i+k))<(n:Int),layA cs (Int.toNat (i64.wrap (i+k))*1) [.int .u32 (u32.wrap (u64.wrap (c+(u64.wrap ((u64.wrap z)+(u64.wrap ((u64.wrap x)*(u64.wrap y))))))))]=some ds,¬ (32:Int)<0]) TBB_holds 300 [.b true, .v (.int .u32 z), .v (.int .u32 x), .v (.int .u32 y), .l ds] [0,1,4,5,6,7,8] (by kernel_rfl) ⟨c1,n1,n2,n3,n4,n5,n6,n7,n8,(by decide),trivial⟩
theorem Yki141_2 (la:Nat) (xa:List AV) (lb:Nat) (bs:List AV) (n:Nat) (cs:List AV) (i c k:Int) (c1:(decide (k<(lb:Int)))=false):RunsW Yir Yci141 (Ysi141 la xa lb bs n cs i c k) (.exit 2) (Ysi141 la xa lb bs n cs i c k):=RunsW.script (ps:=[(decide (k<(lb:Int)))=false]) TBB_holds 300 [.b false] [0,1,4,5,6,7,8] (by kernel_rfl) ⟨c1,trivial⟩
theorem Yko141_no (la:Nat) (xa:List AV) (lb:Nat) (bs:List AV) (n:Nat) (cs:List AV) (i:Int) (h:(decide (i<(la:Int)))=false):RunsW Yir Yco141 (Yso141 la xa lb bs n cs i) (.exit 0) (Yso141 la xa lb bs n cs i):=RunsW.script (ps:=[(decide (i<(la:Int)))=false]) TBB_holds 300 [.b false] [0,1,4,5,6] (by kernel_rfl) ⟨h,trivial⟩
theorem Yko141_yes (la:Nat) (xa:List AV) (lb:Nat) (bs:List AV) (n:Nat) (cs ds es:List AV) (i c k:Int) (h:(decide (i<(la:Int)))=true) (hl:RunsW Yir (.loop Yci141) (Ysi141 la xa lb bs n cs i 0 0) (.exit 2) (Ysi141 la xa lb bs n ds i c k)) (hix:0≤i64.wrap (i+(lb:Int))∧i64.wrap (i+(lb:Int))<(n:Int)) (hst:layA ds (Int.toNat (i64.wrap (i+(lb:Int)))*1) [.int .u32 (u32.wrap c)]=some es):RunsW Yir Yco141 (Yso141 la xa lb bs n cs i) .norm (Yso141 la xa lb bs n es (i64.wrap (i+1))):=(RunsW.seq (RunsW.script (t:=(.val (.sl la xa)::(.val (.sl lb bs)::(dds 2 (.own 1 0 []::(.own 1 n cs::(vi i::(dds 8 (vi i::(.val (.sl la xa)::(vi (la:Int)::(.val (.bool (decide (i<(la:Int))))::(dds 47 []))))))))))))) (ex := .norm) (ps:=[(decide (i<(la:Int)))=true]) TBB_holds 300 [.b true] [0,1,4,5,6,15,16,17,18] (by kernel_rfl) ⟨h,trivial⟩) (RunsW.seq (RunsW.block_norm (RunsW.seq (RunsW.script (t:=(.val (.sl la xa)::(.val (.sl lb bs)::(dds 2 (.own 1 0 []::(.own 1 n cs::(vi i::(.val (.int .u64 0)::(dds 7 (vi i::(.val (.sl la xa)::(vi (la:Int)::(.val (.bool (decide (i<(la:Int))))::(dds 47 [])))))))))))))) (ex := .norm) (ps:=[]) TBB_holds 300 [] [0,1,4,5,6,7,15,16,17,18] (by kernel_rfl) trivial) (RunsW.seq (RunsW.seq (RunsW.script (t:=(.val (.sl la xa)::(.val (.sl lb bs)::(dds 2 (.own 1 0 []::(.own 1 n cs::(vi i::(.val (.int .u64 0)::(vi 0::(dds 57 [])))))))))) (ex := .norm) (ps:=[]) TBB_holds 300 [] [0,1,4,5,6,7,8] (by kernel_rfl) trivial) (RunsW.block hl)) (RunsW.script (t:=(.val (.sl la xa)::(.val (.sl lb bs)::(dds 2 (.own 1 0 []::(.own 1 n es::(vi i::(.val (.int .u64 c)::(vi k::(dds 48 (.dup 5::(vi i::(.val (.sl lb bs)::(vi (lb:Int)::(vi (i64.wrap (i+(lb:Int)))::(.val (.int .u64 c)::(.val (.int .u32 (u32.wrap c))::(.ptr 5 (Int.toNat (i64.wrap (i+(lb:Int)))*1)::(dds 1 []))))))))))))))))))) (ex := .norm) (ps:=[0≤(i64.wrap (i+(lb:Int)))∧(i64.wrap (i+(lb:Int)))<(n:Int),layA ds (Int.toNat (i64.wrap (i+(lb:Int)))*1) [.int .u32 (u32.wrap c)]=some es]) TBB_holds 300 [.l es] [0,1,4,5,6,7,8,57,58,59,60,61,62,63,64] (by kernel_rfl) ⟨hix,hst,trivial⟩)))) (RunsW.script (t:=(.val (.sl la xa)::(.val (.sl lb bs)::(dds 2 (.own 1 0 []::(.own 1 n es::(vi (i64.wrap (i+1))::(dds 59 [])))))))) (ex := .norm) (ps:=[]) TBB_holds 300 [] [0,1,4,5,6] (by kernel_rfl) trivial)))
def innGo (a:Int) (bs:List Int) (i:Nat):Nat→Nat→List Int→Int→List Int × Int
 | 0,_,out,c=>(out,c)
 | r+1,k,out,c=>innGo a bs i r (k+1) (out.set (i+k) ((c+(out.getD (i+k) 0+a*bs.getD k 0)) % 4294967296)) ((c+(out.getD (i+k) 0+a*bs.getD k 0)) / 4294967296)
theorem word_bd {a b c o:Int} (ha:0≤a∧a<4294967296) (hb:0≤b∧b<4294967296) (hc:0≤c∧c<4294967296) (ho:0≤o∧o<4294967296) :
  0≤a*b∧a*b≤18446744065119617025∧0≤c+(o+a*b)∧c+(o+a*b)<18446744073709551616:=by
 have h1:=Int.mul_nonneg ha.1 hb.1
 have h2:a*b≤4294967295*4294967295:=Int.mul_le_mul (by omega) (by omega) hb.1 (by omega)
 omega
theorem getD_set_ne {xs:List Int} {i j:Nat} {v:Int} (h:i ≠ j):(xs.set i v).getD j 0=xs.getD j 0:=by
 simp only [List.getD_eq_getElem?_getD,List.getElem?_set_ne h]
theorem innGo_ok {a:Int} {bs:List Int} {i:Nat} (ha:0≤a∧a<4294967296) (hb:U32 bs):∀ (r k:Nat) (out:List Int) (c:Int),r+k=bs.length→i+bs.length≤out.length→U32 out→0≤c∧c<4294967296 →
  (innGo a bs i r k out c).1.length=out.length∧U32 (innGo a bs i r k out c).1∧(0≤(innGo a bs i r k out c).2∧(innGo a bs i r k out c).2<4294967296) ∧
  valL (innGo a bs i r k out c).1+4294967296^(i+bs.length)*(innGo a bs i r k out c).2=valL out+4294967296^(i+k)*(c+a*valL (bs.drop k)) ∧
  ∀ j,i+bs.length≤j→(innGo a bs i r k out c).1.getD j 0=out.getD j 0:=by
 intro r
 induction r with
 | zero =>
  intro k out c hk _ hu hc
  have hk':k=bs.length:=by omega
  subst hk'
  refine ⟨rfl,hu,hc,?_,fun _ _=>rfl⟩
  simp [innGo,valL]
 | succ r ih =>
  intro k out c hk hl hu hc
  have hbk:=getD_u32 hb k
  have hok:=getD_u32 hu (i+k)
  obtain ⟨w1,w2,w3,w4⟩:=word_bd ha hbk hc hok
  have hlt:i+k<out.length:=by omega
  simp only [innGo]
  generalize hW:c+(out.getD (i+k) 0+a*bs.getD k 0)=W at *
  have hm:0≤W % 4294967296∧W % 4294967296<4294967296:=by omega
  obtain ⟨g1,g2,g3,g4,g5⟩:=ih (k+1) (out.set (i+k) (W % 4294967296)) (W / 4294967296) (by omega) (by simpa using hl) (u32_set hu hm) (by omega)
  refine ⟨by simpa using g1,g2,g3,?_,fun j hj => ?_⟩
  ·rw [g4,valL_set out (i+k) _ hlt]
   have hd:valL (bs.drop k)=bs.getD k 0+4294967296*valL (bs.drop (k+1)):=by
    rw [List.drop_eq_getElem_cons (show k<bs.length by omega)]
    simp [valL,List.getD_eq_getElem?_getD,List.getElem?_eq_getElem (show k<bs.length by omega)]
   rw [hd]
   have hp:(4294967296:Int)^(i+(k+1))=4294967296^(i+k)*4294967296:=by rw [← Nat.add_assoc,Int.pow_succ]
   rw [hp]
   generalize (4294967296:Int)^(i+k)=p at *
   generalize valL (bs.drop (k+1))=V at *
   have e1:W=4294967296*(W / 4294967296)+W % 4294967296:=by omega
   have e2:c=W-out.getD (i+k) 0-a*bs.getD k 0:=by omega
   rw [e2]
   generalize W / 4294967296=q at *
   generalize W % 4294967296=m at *
   generalize out.getD (i+k) 0=o at *
   generalize bs.getD k 0=b at *
   subst e1
   grind
  ·rw [g5 j hj,getD_set_ne (by omega)]
theorem Yloopi141 (xa bs:List Int) (ha:U32 xa) (hb:U32 bs) (n i:Nat) (hn:n≤1048576) (hi:i<xa.length) (hib:i+bs.length≤n):∀ (r k:Nat) (out:List Int) (c:Int),r+k=bs.length→out.length=n→U32 out→0≤c∧c<4294967296 →
  RunsW Yir (.loop Yci141) (Ysi141 xa.length (lm xa) bs.length (lm bs) n (lm out) (i:Int) c (k:Int)) (.exit 2)
   (Ysi141 xa.length (lm xa) bs.length (lm bs) n (lm (innGo (xa.getD i 0) bs i r k out c).1) (i:Int) (innGo (xa.getD i 0) bs i r k out c).2 (bs.length:Int)):=by
 intro r
 induction r with
 | zero =>
  intro k out c hk _ _ _
  have hk':k=bs.length:=by omega
  subst hk'
  exact RunsW.loop_out (Yki141_2 xa.length (lm xa) bs.length (lm bs) n (lm out) (i:Int) c (bs.length:Int) (by simp)) (by intro e;cases e)
 | succ r ih =>
  intro k out c hk hl hu hc
  have hai:=getD_u32 ha i
  have hbk:=getD_u32 hb k
  have hok:=getD_u32 hu (i+k)
  obtain ⟨w1,w2,w3,w4⟩:=word_bd hai hbk hc hok
  have ei:i64.wrap ((i:Int)+(k:Int))=((i+k:Nat):Int):=by rw [w64 (by omega) (by omega)];omega
  have ek:i64.wrap ((k:Int)+1)=((k+1:Nat):Int):=by rw [w64 (by omega) (by omega)];omega
  have hz:=own_lim (xs:=out) (i:=i+k) (by omega)
  have hx:=take_lim (xs:=xa) (i:=i) hi
  have hy:=take_lim (xs:=bs) (i:=k) (by omega)
  have hst:=lay_lim (xs:=out) (i:=i+k) (v:=(c+(out.getD (i+k) 0+xa.getD i 0*bs.getD k 0)) % 4294967296) (by omega)
  have eW:u64.wrap (c+u64.wrap (u64.wrap (out.getD (i+k) 0)+u64.wrap (u64.wrap (xa.getD i 0)*u64.wrap (bs.getD k 0))))=c+(out.getD (i+k) 0+xa.getD i 0*bs.getD k 0):=by
   have q1:u64.wrap (xa.getD i 0)=xa.getD i 0:=by rw [wu64m];omega
   have q2:u64.wrap (bs.getD k 0)=bs.getD k 0:=by rw [wu64m];omega
   have q3:u64.wrap (out.getD (i+k) 0)=out.getD (i+k) 0:=by rw [wu64m];omega
   rw [q1,q2,q3,wu64m,wu64m,wu64m]
   omega
  have eS:Int.fdiv (c+(out.getD (i+k) 0+xa.getD i 0*bs.getD k 0)) (2^(min (Int.toNat 32) (IntKind.bits .u64)))=(c+(out.getD (i+k) 0+xa.getD i 0*bs.getD k 0)) / 4294967296:=by
   show Int.fdiv _ 4294967296=_
   rw [Int.fdiv_eq_ediv_of_nonneg _ (by omega)]
  have h1:=Yki141_1 xa.length (lm xa) bs.length (lm bs) n (lm out) (lm (out.set (i+k) ((c+(out.getD (i+k) 0+xa.getD i 0*bs.getD k 0)) % 4294967296))) (i:Int) c (k:Int) (xa.getD i 0) (bs.getD k 0) (out.getD (i+k) 0)
   (by simp;omega) (by rw [ei];omega) (by rw [ei,Int.toNat_natCast];exact hz) (by omega) (by rw [Int.toNat_natCast];exact hx) (by omega) (by rw [Int.toNat_natCast];exact hy) (by rw [ei];omega) (by rw [ei,Int.toNat_natCast,eW,wu32];exact hst)
  rw [eW,eS,ek] at h1
  exact RunsW.loop h1 (ih (k+1) _ _ (by omega) (by simpa using hl) (u32_set hu (by omega)) (by omega))
theorem Yloopo141 (xa bs:List Int) (ha:U32 xa) (hb:U32 bs) (hN:xa.length+bs.length≤1048576):∀ (r i:Nat) (out:List Int),r+i=xa.length→out.length=xa.length+bs.length→U32 out→(∀ j,i+bs.length≤j→out.getD j 0=0) →
  ∃ out',out'.length=xa.length+bs.length∧U32 out'∧valL out'=valL out+4294967296^i*(valL (xa.drop i)*valL bs) ∧
   RunsW Yir (.loop Yco141) (Yso141 xa.length (lm xa) bs.length (lm bs) (xa.length+bs.length) (lm out) (i:Int)) (.exit 0) (Yso141 xa.length (lm xa) bs.length (lm bs) (xa.length+bs.length) (lm out') (xa.length:Int)):=by
 intro r
 induction r with
 | zero =>
  intro i out hi hl hu _
  have hi':i=xa.length:=by omega
  subst hi'
  refine ⟨out,hl,hu,by simp [valL],?_⟩
  exact RunsW.loop_out (Yko141_no xa.length (lm xa) bs.length (lm bs) (xa.length+bs.length) (lm out) (xa.length:Int) (by simp)) (by intro e;cases e)
 | succ r ih =>
  intro i out hi hl hu hz
  have hai:=getD_u32 ha i
  have hlt:i<xa.length:=by omega
  have hin:=Yloopi141 xa bs ha hb (xa.length+bs.length) i hN hlt (by omega) bs.length 0 out 0 (by omega) hl hu (by omega)
  obtain ⟨g1,g2,g3,g4,g5⟩:=innGo_ok (i:=i) hai hb bs.length 0 out 0 (by omega) (by omega) hu (by omega)
  generalize innGo (xa.getD i 0) bs i bs.length 0 out 0=q at *
  obtain ⟨ds,c⟩:=q
  dsimp only at g1 g2 g3 g4 g5 hin
  have ei:i64.wrap ((i:Int)+(bs.length:Int))=((i+bs.length:Nat):Int):=by rw [w64 (by omega) (by omega)];omega
  have ei1:i64.wrap ((i:Int)+1)=((i+1:Nat):Int):=by rw [w64 (by omega) (by omega)];omega
  have ec:u32.wrap c=c:=by rw [wu32];omega
  have hst:=lay_lim (xs:=ds) (i:=i+bs.length) (v:=c) (by omega)
  have h1:=Yko141_yes xa.length (lm xa) bs.length (lm bs) (xa.length+bs.length) (lm out) (lm ds) (lm (ds.set (i+bs.length) c)) (i:Int) c (bs.length:Int) (by simp;omega) hin (by rw [ei];omega) (by rw [ei,Int.toNat_natCast,ec];exact hst)
  rw [ei1] at h1
  obtain ⟨out',k1,k2,k3,k4⟩:=ih (i+1) (ds.set (i+bs.length) c) (by omega) (by simp;omega) (u32_set g2 g3) (fun j hj=>by rw [getD_set_ne (by omega),g5 j (by omega),hz j (by omega)])
  refine ⟨out',k1,k2,?_,RunsW.loop h1 k4⟩
  have hv:valL (ds.set (i+bs.length) c)=valL out+4294967296^i*(xa.getD i 0*valL bs):=by
   rw [valL_set ds _ _ (by omega),g5 _ (Nat.le_refl _),hz _ (Nat.le_refl _)]
   simp only [Nat.add_zero,List.drop_zero,Int.zero_add,Int.sub_zero] at g4 ⊢
   exact g4
  have hd:valL (xa.drop i)=xa.getD i 0+4294967296*valL (xa.drop (i+1)):=by
   rw [List.drop_eq_getElem_cons hlt]
   simp [valL,List.getD_eq_getElem?_getD,List.getElem?_eq_getElem hlt]
  rw [k3,hv,hd,Int.pow_succ]
  generalize (4294967296:Int)^i=p at *
  generalize valL (xa.drop (i+1))=V at *
  grind
theorem mulMag_run {xa bs:List Int} (ha:U32 xa) (hb:U32 bs) (hN:xa.length+bs.length≤1048576) :
  ∃ out,out.length=xa.length+bs.length∧U32 out∧valL out=valL xa*valL bs∧Runs Yir 141 [.sl xa.length (lm xa), .sl bs.length (lm bs)] (.fresh 1 out.length (lm out)):=by
 have en:i64.wrap ((xa.length:Int)+(bs.length:Int))=((xa.length+bs.length:Nat):Int):=by rw [w64 (by omega) (by omega)];omega
 have eN:(Int.toNat (i64.wrap ((xa.length:Int)+(bs.length:Int))))=xa.length+bs.length:=by rw [en,Int.toNat_natCast]
 obtain ⟨out,h1,h2,h3,h4⟩:=Yloopo141 xa bs ha hb hN xa.length 0 (List.replicate (xa.length+bs.length) 0) (by omega) (by simp) (fun x hx=>by rw [List.eq_of_mem_replicate hx];omega) (fun j _=>by simp [List.getD_eq_getElem?_getD,List.getElem?_replicate];split <;> rfl)
 refine ⟨out,h1,h2,?_,?_⟩
 ·rw [h3,valL_zeros];simp
 have hmk:0≤i64.wrap ((xa.length:Int)+(bs.length:Int))∧i64.wrap ((xa.length:Int)+(bs.length:Int))≤1048576:=by rw [en];omega
 have hl:RunsW Yir (.loop Yco141) (Yso141 xa.length (lm xa) bs.length (lm bs) (Int.toNat (i64.wrap ((xa.length:Int)+(bs.length:Int)))) (replA [.int .u32 0] (Int.toNat (i64.wrap ((xa.length:Int)+(bs.length:Int))))) 0) (.exit 0) (Yso141 xa.length (lm xa) bs.length (lm bs) (Int.toNat (i64.wrap ((xa.length:Int)+(bs.length:Int)))) (lm out) (xa.length:Int)):=by
  rw [eN,repl_lim];exact h4
 have:=Runs.of_bodyW (prog:=Yir) (f:=141) (args:=[.sl xa.length (lm xa), .sl bs.length (lm bs)]) (r := .fresh 1 (Int.toNat (i64.wrap ((xa.length:Int)+(bs.length:Int)))) (lm out)) (fn:=Yi141) (s:=(.val (.sl xa.length (lm xa))::(.val (.sl bs.length (lm bs))::(dds 2 (.own 1 (Int.toNat (i64.wrap ((xa.length:Int)+(bs.length:Int)))) (lm out)::(dds 1 (.val (.int .i64 (xa.length:Int))::(dds 59 [])))))))) (ex := .ret) rfl rfl
  (RunsW.seq (RunsW.script (t:=(.val (.sl xa.length (lm xa))::(.val (.sl bs.length (lm bs))::(dds 2 (.own 1 0 []::(dds 61 [])))))) (ex := .norm) (ps:=[]) TBB_holds 300 [] [0,1,4] (by kernel_rfl) trivial)
  (RunsW.seq (RunsW.script (t:=(.val (.sl xa.length (lm xa))::(.val (.sl bs.length (lm bs))::(dds 2 (.own 1 0 []::(.own 1 (Int.toNat (i64.wrap ((xa.length:Int)+(bs.length:Int)))) (replA [.int .u32 0] (Int.toNat (i64.wrap ((xa.length:Int)+(bs.length:Int)))))::(dds 3 (.val (.sl xa.length (lm xa))::(.val (.int .i64 (xa.length:Int))::(.val (.sl bs.length (lm bs))::(.val (.int .i64 (bs.length:Int))::(.val (.int .i64 (i64.wrap ((xa.length:Int)+(bs.length:Int))))::(dds 52 []))))))))))))) (ex := .norm) (ps:=[0≤(i64.wrap ((xa.length:Int)+(bs.length:Int)))∧(i64.wrap ((xa.length:Int)+(bs.length:Int)))≤1048576]) TBB_holds 300 [] [0,1,4,5,9,10,11,12,13] (by kernel_rfl) ⟨hmk,trivial⟩)
  (RunsW.seq (RunsW.seq (RunsW.script (t:=(.val (.sl xa.length (lm xa))::(.val (.sl bs.length (lm bs))::(dds 2 (.own 1 0 []::(.own 1 (Int.toNat (i64.wrap ((xa.length:Int)+(bs.length:Int)))) (replA [.int .u32 0] (Int.toNat (i64.wrap ((xa.length:Int)+(bs.length:Int)))))::(.val (.int .i64 0)::(dds 59 [])))))))) (ex := .norm) (ps:=[]) TBB_holds 300 [] [0,1,4,5,6] (by kernel_rfl) trivial)
  (RunsW.block hl))
  (RunsW.script (t:=(.val (.sl xa.length (lm xa))::(.val (.sl bs.length (lm bs))::(dds 2 (.own 1 (Int.toNat (i64.wrap ((xa.length:Int)+(bs.length:Int)))) (lm out)::(dds 1 (.val (.int .i64 (xa.length:Int))::(dds 59 [])))))))) (ex := .ret) (ps:=[]) TBB_holds 300 [] [0,1,4,6] (by kernel_rfl) trivial)))) (by intro i e;cases e) rfl
 rw [eN,← h1] at this
 exact this
def TBC:Table:=TBB
theorem TBC_holds:THolds Yir TBC:=TBB_holds
end Go.Proofs.Ythnnfemologhfaa

namespace Go.Ai
open Go.IntKind (i64 u64 u32)
theorem drop_val:∀ (xs:List Int) (i:Nat),valL (xs.drop i)=xs.getD i 0+4294967296*valL (xs.drop (i+1))
 | [],i=>by simp [valL]
 | x::xs,0=>by simp [valL]
 | x::xs,i+1=>by
  have:=drop_val xs i
  simpa using this
theorem getD_other {xs:List Int} {i j:Nat} {v:Int} (h:i ≠ j):(xs.set i v).getD j 0=xs.getD j 0:=by
 simp only [List.getD_eq_getElem?_getD,List.getElem?_set_ne h]
theorem getD_end {xs:List Int} {i:Nat} (h:xs.length≤i):xs.getD i 0=0:=by
 simp [List.getD_eq_getElem?_getD,List.getElem?_eq_none h]
theorem drop_end {xs:List Int} {i:Nat} (h:xs.length≤i):valL (xs.drop i)=0:=by
 rw [List.drop_eq_nil_of_le h];rfl
def addGo (xs ys:List Int):Nat→Nat→List Int→Int→List Int × Int
 | 0,_,o,c=>(o,c)
 | r+1,i,o,c=>addGo xs ys r (i+1) (o.set i ((xs.getD i 0+c+ys.getD i 0) % 4294967296)) ((xs.getD i 0+c+ys.getD i 0) / 4294967296)
theorem addGo_ok {xs ys:List Int} (hx:U32 xs) (hy:U32 ys) (hl:ys.length≤xs.length):∀ (r i:Nat) (o:List Int) (c:Int),r+i=xs.length→xs.length<o.length→U32 o→0≤c∧c≤1→(∀ j,i≤j→o.getD j 0=0) →
  (addGo xs ys r i o c).1.length=o.length∧U32 (addGo xs ys r i o c).1∧(0≤(addGo xs ys r i o c).2∧(addGo xs ys r i o c).2≤1) ∧
  valL (addGo xs ys r i o c).1+4294967296^xs.length*(addGo xs ys r i o c).2=valL o+4294967296^i*(c+valL (xs.drop i)+valL (ys.drop i)) ∧
  ∀ j,xs.length≤j→(addGo xs ys r i o c).1.getD j 0=0:=by
 intro r
 induction r with
 | zero =>
  intro i o c hi _ hu hc hz
  have hi':i=xs.length:=by omega
  subst hi'
  refine ⟨rfl,hu,hc,?_,fun j hj=>hz j hj⟩
  rw [drop_end (Nat.le_refl _),drop_end hl]
  simp [addGo]
 | succ r ih =>
  intro i o c hi hlo hu hc hz
  have h1:=getD_u32 hx i
  have h2:=getD_u32 hy i
  simp only [addGo]
  have ex:=drop_val xs i
  have ey:=drop_val ys i
  have hoz:=hz i (Nat.le_refl _)
  generalize hW:xs.getD i 0+c+ys.getD i 0=W at *
  have hm:0≤W % 4294967296∧W % 4294967296<4294967296:=by omega
  obtain ⟨g1,g2,g3,g4,g5⟩:=ih (i+1) (o.set i (W % 4294967296)) (W / 4294967296) (by omega) (by simpa using hlo) (u32_set hu hm) (by omega) (fun j hj=>by rw [getD_other (by omega)];exact hz j (by omega))
  refine ⟨by simpa using g1,g2,g3,?_,g5⟩
  rw [g4,valL_set o i _ (by omega),ex,ey,hoz,Int.pow_succ]
  generalize (4294967296:Int)^i=p at *
  generalize valL (xs.drop (i+1))=V at *
  generalize valL (ys.drop (i+1))=U at *
  have e1:W=4294967296*(W / 4294967296)+W % 4294967296:=by omega
  have e2:c=W-xs.getD i 0-ys.getD i 0:=by omega
  rw [e2]
  generalize W / 4294967296=q at *
  generalize W % 4294967296=m at *
  generalize xs.getD i 0=a at *
  generalize ys.getD i 0=b at *
  subst e1
  grind
def subGo (xs ys:List Int):Nat→Nat→List Int→Int→List Int × Int
 | 0,_,o,c=>(o,c)
 | r+1,i,o,c=>subGo xs ys r (i+1) (o.set i ((xs.getD i 0-c-ys.getD i 0) % 4294967296)) (-((xs.getD i 0-c-ys.getD i 0) / 4294967296))
theorem subGo_ok {xs ys:List Int} (hx:U32 xs) (hy:U32 ys) (hl:ys.length≤xs.length):∀ (r i:Nat) (o:List Int) (c:Int),r+i=xs.length→xs.length≤o.length→U32 o→0≤c∧c≤1→(∀ j,i≤j→o.getD j 0=0) →
  (subGo xs ys r i o c).1.length=o.length∧U32 (subGo xs ys r i o c).1∧(0≤(subGo xs ys r i o c).2∧(subGo xs ys r i o c).2≤1) ∧
  valL (subGo xs ys r i o c).1=valL o+4294967296^i*(valL (xs.drop i)-valL (ys.drop i)-c)+4294967296^xs.length*(subGo xs ys r i o c).2:=by
 intro r
 induction r with
 | zero =>
  intro i o c hi _ hu hc hz
  have hi':i=xs.length:=by omega
  subst hi'
  refine ⟨rfl,hu,hc,?_⟩
  rw [drop_end (Nat.le_refl _),drop_end hl]
  simp only [subGo]
  generalize (4294967296:Int)^xs.length=p
  grind
 | succ r ih =>
  intro i o c hi hlo hu hc hz
  have h1:=getD_u32 hx i
  have h2:=getD_u32 hy i
  simp only [subGo]
  have ex:=drop_val xs i
  have ey:=drop_val ys i
  have hoz:=hz i (Nat.le_refl _)
  generalize hW:xs.getD i 0-c-ys.getD i 0=W at *
  have hm:0≤W % 4294967296∧W % 4294967296<4294967296:=by omega
  obtain ⟨g1,g2,g3,g4⟩:=ih (i+1) (o.set i (W % 4294967296)) (-(W / 4294967296)) (by omega) (by simpa using hlo) (u32_set hu hm) (by omega) (fun j hj=>by rw [getD_other (by omega)];exact hz j (by omega))
  refine ⟨by simpa using g1,g2,g3,?_⟩
  rw [g4,valL_set o i _ (by omega),ex,ey,hoz,Int.pow_succ]
  generalize (4294967296:Int)^i=p at *
  generalize valL (xs.drop (i+1))=V at *
  generalize valL (ys.drop (i+1))=U at *
  have e1:W=4294967296*(W / 4294967296)+W % 4294967296:=by omega
  have e2:c=xs.getD i 0-ys.getD i 0-W:=by omega
  rw [e2]
  generalize W / 4294967296=q at *
  generalize W % 4294967296=m at *
  generalize xs.getD i 0=a at *
  generalize ys.getD i 0=b at *
  subst e1
  grind
theorem getD_zeros (n j:Nat):(List.replicate n (0:Int)).getD j 0=0:=by
 simp [List.getD_eq_getElem?_getD,List.getElem?_replicate];split <;> rfl
theorem u32_zeros (n:Nat):U32 (List.replicate n 0):=fun x hx=>by rw [List.eq_of_mem_replicate hx];omega
theorem add_whole {xs ys:List Int} (hx:U32 xs) (hy:U32 ys) (hl:ys.length≤xs.length) (o:List Int) (c:Int) (e:addGo xs ys xs.length 0 (List.replicate (xs.length+1) 0) 0=(o,c)) :
  o.length=xs.length+1∧U32 o∧(0≤c∧c≤1)∧U32 (o.set xs.length c)∧valL (o.set xs.length c)=valL xs+valL ys:=by
 obtain ⟨g1,g2,g3,g4,g5⟩:=addGo_ok hx hy hl xs.length 0 (List.replicate (xs.length+1) 0) 0 (by omega) (by simp) (u32_zeros _) (by omega) (fun j _=>getD_zeros _ j)
 rw [e] at g1 g2 g3 g4 g5
 dsimp only at g1 g2 g3 g4 g5
 have hlo:o.length=xs.length+1:=by simpa using g1
 refine ⟨hlo,g2,g3,u32_set g2 (by omega),?_⟩
 rw [valL_set o _ _ (by omega),g5 _ (Nat.le_refl _),Int.sub_zero,g4,valL_zeros]
 simp
theorem sub_whole {xs ys:List Int} (hx:U32 xs) (hy:U32 ys) (hl:ys.length≤xs.length) (hv:valL ys≤valL xs) (o:List Int) (c:Int) (e:subGo xs ys xs.length 0 (List.replicate xs.length 0) 0=(o,c)) :
  o.length=xs.length∧U32 o∧valL o=valL xs-valL ys:=by
 obtain ⟨g1,g2,g3,g4⟩:=subGo_ok hx hy hl xs.length 0 (List.replicate xs.length 0) 0 (by omega) (by simp) (u32_zeros _) (by omega) (fun j _=>getD_zeros _ j)
 rw [e] at g1 g2 g3 g4
 dsimp only at g1 g2 g3 g4
 have hlo:o.length=xs.length:=by simpa using g1
 refine ⟨hlo,g2,?_⟩
 rw [valL_zeros] at g4
 simp at g4
 have h1:=valL_lt g2
 rw [hlo] at h1
 have hp:=pow32_pos xs.length
 rcases (show c=0∨c=1 by omega) with h | h
 ·rw [g4,h];simp
 ·rw [h,Int.mul_one] at g4;omega
end Go.Ai

namespace Go.Ai
open Go.IntKind (i64 u64 u32)
abbrev Rn:=Bool × List Int
def rval (r:Rn):Int:=rv r.1 r.2
def cn (n:Int):Rn:=(decide (n<0),limbs n.natAbs)
def pc (rs:List Rn):List AV:=rs.flatMap fun r=>[.bool r.1, .sl r.2.length (lm r.2)]
def vals (rs:List Rn):List Int:=rs.map rval
def pk (ps:List Int):List AV:=pc (ps.map cn)
def z0:Rn:=(false,[])
def Good (K:Nat) (r:Rn):Prop:=U32 r.2∧r.2.length≤K
def rawAV (r:Rn):AV := .agg [.bool r.1, .sl r.2.length (lm r.2)]
theorem rval_cn (n:Int):rval (cn n)=n:=rv_big n
theorem rval_z0:rval z0=0:=rfl
theorem vals_cn (ps:List Int):vals (ps.map cn)=ps:=by
 unfold vals
 rw [List.map_map]
 have:(rval ∘ cn)=id:=funext rval_cn
 rw [this,List.map_id]
theorem good_cn {k:Nat} {n:Int} (h:Fits k n):Good k (cn n):=⟨big_u32 _,h.len⟩
theorem good_z0 (k:Nat):Good k z0:=⟨fun x hx=>(by cases hx),Nat.zero_le _⟩
theorem Good.mono {j k:Nat} {r:Rn} (h:Good j r) (hk:j≤k):Good k r:=⟨h.1,Nat.le_trans h.2 hk⟩
theorem Good.fits {k:Nat} {r:Rn} (h:Good k r):Fits k (rval r):=(rv_fits h.1).mono h.2
theorem pc_length (rs:List Rn):(pc rs).length=rs.length*2:=by
 induction rs with
 | nil=>rfl
 | cons r rs ih=>simp only [pc,List.flatMap_cons,List.length_append,List.length_cons,List.length_nil] at ih ⊢;omega
theorem pc_cons (r:Rn) (rs:List Rn):pc (r::rs) = .bool r.1 :: .sl r.2.length (lm r.2)::pc rs:=rfl
theorem pc_append (rs ss:List Rn):pc (rs++ss)=pc rs++pc ss:=by simp [pc]
theorem pc_drop:∀ (i:Nat) (rs:List Rn),(pc rs).drop (i*2)=pc (rs.drop i)
 | 0,rs=>by simp
 | i+1,[]=>by simp [pc]
 | i+1,r::rs=>by
  rw [pc_cons,Nat.add_mul,Nat.one_mul]
  show (pc rs).drop (i*2)=_
  rw [pc_drop i rs];rfl
theorem pc_take:∀ (i:Nat) (rs:List Rn),(pc rs).take (i*2)=pc (rs.take i)
 | 0,rs=>by simp [pc]
 | i+1,[]=>by simp [pc]
 | i+1,r::rs=>by
  rw [pc_cons,Nat.add_mul,Nat.one_mul]
  show _::_::(pc rs).take (i*2)=_
  rw [pc_take i rs];rfl
theorem take_pc {rs:List Rn} {i:Nat} (h:i<rs.length):takeA (List.drop (i*2) (pc rs)) 0 2 false=some (rawAV (rs.getD i z0)):=by
 rw [pc_drop,List.drop_eq_getElem_cons h,pc_cons]
 simp [takeA,rawAV,List.getD_eq_getElem?_getD,List.getElem?_eq_getElem h]
theorem own_pc {rs:List Rn} {i:Nat} (h:i<rs.length):takeA (pc rs) (i*2) 2 false=some (rawAV (rs.getD i z0)):=by
 have h1:=take_pc h
 have hl:=pc_length rs
 simp only [takeA,Bool.false_eq_true,if_false,Nat.zero_add,List.drop_zero,List.length_drop] at h1 ⊢
 rw [if_pos (by omega)] at h1
 rw [if_pos (by omega)]
 exact h1
theorem lay_pc {rs:List Rn} {i:Nat} {r:Rn} (h:i<rs.length):layA (pc rs) (i*2) [.bool r.1, .sl r.2.length (lm r.2)]=some (pc (rs.set i r)):=by
 have hl:=pc_length rs
 simp only [layA,List.length_cons,List.length_nil]
 rw [if_pos (by omega)]
 congr 1
 have hs:rs.set i r=rs.take i++r::rs.drop (i+1):=by rw [List.set_eq_take_append_cons_drop,if_pos h]
 rw [hs,pc_append,pc_cons,pc_take]
 have:(pc rs).drop (i*2+(0+1+1))=pc (rs.drop (i+1)):=by rw [← pc_drop];congr 1;omega
 simp only [Nat.zero_add] at this
 rw [this]
 simp
theorem repl_pc (n:Nat):replA [.bool false, .sl 0 []] n=pc (List.replicate n z0):=by
 induction n with
 | zero=>rfl
 | succ n ih=>rw [List.replicate_succ,pc_cons,← ih];rfl
theorem pc_noI (rs:List Rn):List.all (pc rs) (fun c => !isI c)=true:=by
 rw [List.all_eq_true]
 intro c hc
 simp only [pc,List.mem_flatMap,List.mem_cons,List.not_mem_nil,or_false] at hc
 obtain ⟨r,_,rfl | rfl⟩:=hc <;> rfl
theorem lm_ints (xs:List Int):List.all (lm xs) isI=true:=by
 rw [List.all_eq_true]
 intro c hc
 simp only [lm,List.mem_map] at hc
 obtain ⟨x,_,rfl⟩:=hc
 rfl
theorem big_intsOnly (n:Int):intsOnly (bigAV n)=true:=by
 simp only [bigAV,intsOnly,List.all_cons,flatInts,lm_ints,List.all_nil,Bool.and_self]
theorem vals_length (rs:List Rn):(vals rs).length=rs.length:=by simp [vals]
theorem vals_getD (rs:List Rn) (i:Nat):(vals rs).getD i 0=rval (rs.getD i z0):=by
 simp only [vals,List.getD_eq_getElem?_getD,List.getElem?_map]
 cases rs[i]? <;> rfl
theorem vals_set (rs:List Rn) (i:Nat) (r:Rn):vals (rs.set i r)=(vals rs).set i (rval r):=by simp [vals,List.map_set]
theorem vals_zeros (n:Nat):vals (List.replicate n z0)=List.replicate n 0:=by simp [vals,rval_z0]
theorem good_getD {K:Nat} {rs:List Rn} (h:∀ r∈rs,Good K r) (i:Nat):Good K (rs.getD i z0):=by
 rw [List.getD_eq_getElem?_getD]
 cases e:rs[i]? with
 | none=>exact good_z0 K
 | some r=>exact h r (List.mem_of_getElem? e)
theorem good_set {K:Nat} {rs:List Rn} (h:∀ r∈rs,Good K r) {i:Nat} {r:Rn} (hr:Good K r):∀ x∈rs.set i r,Good K x:=by
 intro x hx
 rcases List.mem_or_eq_of_mem_set hx with g | g
 ·exact h x g
 ·rw [g];exact hr
theorem good_zeros (K n:Nat):∀ r∈List.replicate n z0,Good K r:=fun r hr=>by rw [List.eq_of_mem_replicate hr];exact good_z0 K
theorem good_cns {k:Nat} {ps:List Int} (h:∀ x∈ps,Fits k x):∀ r∈ps.map cn,Good k r:=fun r hr=>by
 obtain ⟨x,hx,rfl⟩:=List.mem_map.1 hr
 exact good_cn (h x hx)
theorem fits_vals {k:Nat} {rs:List Rn} (h:∀ r∈rs,Good k r):∀ x∈vals rs,Fits k x:=fun x hx=>by
 obtain ⟨r,hr,rfl⟩:=List.mem_map.1 hx
 exact (h r hr).fits
theorem topN_ext {xs ys:List Int} (h:∀ i,xs.getD i 0=ys.getD i 0):∀ n,topN xs n=topN ys n:=by
 intro n
 induction n with
 | zero=>rfl
 | succ n ih=>simp only [topN,h n,ih]
theorem topN_more (xs:List Int):∀ d,topN xs (xs.length+d)=topN xs xs.length:=by
 intro d
 induction d with
 | zero=>rfl
 | succ d ih =>
  rw [← Nat.add_assoc]
  simp only [topN]
  rw [getD_end (by omega),if_pos rfl,ih]
theorem getD_trim (xs:List Int) (i:Nat):(trimL xs).getD i 0=xs.getD i 0:=by
 unfold trimL
 rcases Nat.lt_or_ge i (topN xs xs.length) with h | h
 ·simp only [List.getD_eq_getElem?_getD,List.getElem?_take,if_pos h]
 ·have e:(xs.take (topN xs xs.length)).getD i 0=0:=getD_end (by simp;omega)
  rw [e]
  rcases Nat.lt_or_ge i xs.length with h2 | h2
  ·exact (topN_zero xs xs.length i h h2).symm
  ·exact (getD_end h2).symm
theorem list_ext {xs ys:List Int} (hl:xs.length=ys.length) (h:∀ i,xs.getD i 0=ys.getD i 0):xs=ys:=by
 apply List.ext_getElem hl
 intro i h1 h2
 have:=h i
 simpa [List.getD_eq_getElem?_getD,List.getElem?_eq_getElem h1,List.getElem?_eq_getElem h2] using this
theorem trim_ext {xs ys:List Int} (h:∀ i,xs.getD i 0=ys.getD i 0):trimL xs=trimL ys:=by
 have hlen:(trimL xs).length=(trimL ys).length:=by
  have h1:∀ zs:List Int,(trimL zs).length=topN zs zs.length:=fun zs=>by have:=topN_le zs zs.length;simp [trimL];omega
  rw [h1,h1]
  rcases Nat.le_total xs.length ys.length with g | g
  ·have:=topN_more xs (ys.length-xs.length)
   rw [show xs.length+(ys.length-xs.length)=ys.length by omega] at this
   rw [← this,topN_ext h]
  ·have:=topN_more ys (xs.length-ys.length)
   rw [show ys.length+(xs.length-ys.length)=xs.length by omega] at this
   rw [← this,topN_ext h]
 refine list_ext hlen fun i => ?_
 rw [getD_trim,getD_trim,h i]
theorem trim_length (xs:List Int):(trimL xs).length=topN xs xs.length:=by have:=topN_le xs xs.length;simp [trimL];omega
theorem mem_trim {xs:List Int} {x:Int} (h:x∈trimL xs):x∈xs:=List.mem_of_mem_take h
theorem trim_trim (xs:List Int):trimL (trimL xs)=trimL xs:=trim_ext (getD_trim xs)
def peval:List Int→Int→Int
 | [],_=>0
 | p::ps,x=>p+x*peval ps x
theorem peval_zero {xs:List Int} (h:∀ i,xs.getD i 0=0) (x:Int):peval xs x=0:=by
 induction xs with
 | nil=>rfl
 | cons p ps ih =>
  have h0:=h 0
  simp at h0
  have:=ih (fun i=>by simpa using h (i+1))
  simp [peval,h0,this]
theorem peval_ext:∀ {xs ys:List Int},(∀ i,xs.getD i 0=ys.getD i 0)→∀ x,peval xs x=peval ys x
 | [],ys,h,x=>(peval_zero (fun i=>(h i).symm) x).symm
 | p::ps,[],h,x=>peval_zero (fun i=>h i) x
 | p::ps,q::qs,h,x=>by
  have h0:=h 0
  simp at h0
  simp only [peval,h0]
  rw [peval_ext (fun i=>by simpa using h (i+1)) x]
theorem peval_trim (xs:List Int) (x:Int):peval (trimL xs) x=peval xs x:=peval_ext (getD_trim xs) x
def fillTo (g:Nat→Rn) (i r:Nat):List Rn:=(List.range i).map g++List.replicate r z0
theorem fillTo_length (g:Nat→Rn) (i r:Nat):(fillTo g i r).length=i+r:=by simp [fillTo]
theorem fillTo_zero (g:Nat→Rn) (r:Nat):fillTo g 0 r=List.replicate r z0:=by simp [fillTo]
theorem fillTo_full (g:Nat→Rn) (i:Nat):fillTo g i 0=(List.range i).map g:=by simp [fillTo]
theorem fillTo_set (g:Nat→Rn) (i r:Nat):(fillTo g i (r+1)).set i (g i)=fillTo g (i+1) r:=by
 unfold fillTo
 rw [List.set_append_right _ _ (by simp),List.range_succ,List.map_append,List.replicate_succ]
 simp
theorem fillTo_at (g:Nat→Rn) (i r:Nat):(fillTo g i (r+1)).getD i z0=z0:=by
 unfold fillTo
 rw [List.getD_eq_getElem?_getD,List.getElem?_append_right (by simp)]
 simp
theorem vals_range (g:Nat→Rn) (n i:Nat):(vals ((List.range n).map g)).getD i 0=if i<n then rval (g i) else 0:=by
 rw [vals_getD,List.getD_eq_getElem?_getD]
 by_cases h:i<n
 ·simp [h]
 ·simp [h,rval_z0]
theorem range_cn (xs:List Int):(List.range xs.length).map (fun i=>cn (xs.getD i 0))=xs.map cn:=by
 apply List.ext_getElem (by simp)
 intro i h1 h2
 have h3:i<xs.length:=by simpa using h2
 simp [List.getD_eq_getElem?_getD,List.getElem?_eq_getElem h3]
theorem good_fill {K:Nat} {g:Nat→Rn} {n:Nat} (h:∀ i,i<n→Good K (g i)):∀ r∈(List.range n).map g,Good K r:=fun r hr=>by
 obtain ⟨i,hi,rfl⟩:=List.mem_map.1 hr
 exact h i (List.mem_range.1 hi)
theorem fits_zero (k:Nat):Fits k 0:=by unfold Fits;simp;exact Nat.pow_pos (by decide)
theorem fits_getD {k:Nat} {xs:List Int} (h:∀ x∈xs,Fits k x) (i:Nat):Fits k (xs.getD i 0):=by
 rw [List.getD_eq_getElem?_getD]
 cases e:xs[i]? with
 | none=>exact fits_zero k
 | some x=>exact h x (List.mem_of_getElem? e)
def padd (ps qs:List Int):List Int:=trimL ((List.range (max ps.length qs.length)).map fun i=>ps.getD i 0+qs.getD i 0)
def pneg (ps:List Int):List Int:=ps.map fun x => -x
theorem getD_padd (ps qs:List Int) (i:Nat):(padd ps qs).getD i 0=ps.getD i 0+qs.getD i 0:=by
 unfold padd
 rw [getD_trim,List.getD_eq_getElem?_getD]
 by_cases h:i<max ps.length qs.length
 ·simp [h]
 ·have h1:ps.length≤i:=by omega
  have h2:qs.length≤i:=by omega
  rw [getD_end h1,getD_end h2]
  simp [h]
theorem getD_pneg (ps:List Int) (i:Nat):(pneg ps).getD i 0 = -(ps.getD i 0):=by
 unfold pneg
 simp only [List.getD_eq_getElem?_getD,List.getElem?_map]
 cases ps[i]? <;> simp
theorem padd_trim (ps qs:List Int):trimL (padd ps qs)=padd ps qs:=trim_trim _
theorem padd_ext {ps qs ps' qs':List Int} (h1:∀ i,ps.getD i 0=ps'.getD i 0) (h2:∀ i,qs.getD i 0=qs'.getD i 0):padd ps qs=padd ps' qs':=by
 have:trimL (padd ps qs)=trimL (padd ps' qs'):=trim_ext fun i=>by rw [getD_padd,getD_padd,h1,h2]
 rwa [padd_trim,padd_trim] at this
theorem peval_succ (xs:List Int) (x:Int):peval xs x=xs.getD 0 0+x*peval (xs.drop 1) x:=by
 cases xs <;> simp [peval]
theorem peval_padd_aux:∀ (n:Nat) (us bs cs:List Int),us.length≤n→bs.length≤n→cs.length≤n→(∀ i,cs.getD i 0=us.getD i 0+bs.getD i 0)→∀ x,peval cs x=peval us x+peval bs x:=by
 intro n
 induction n with
 | zero =>
  intro us bs cs h1 h2 h3 _ x
  rw [List.eq_nil_of_length_eq_zero (by omega:us.length=0),List.eq_nil_of_length_eq_zero (by omega:bs.length=0),List.eq_nil_of_length_eq_zero (by omega:cs.length=0)]
  rfl
 | succ n ih =>
  intro us bs cs h1 h2 h3 h x
  rw [peval_succ us,peval_succ bs,peval_succ cs,h 0,ih (us.drop 1) (bs.drop 1) (cs.drop 1) (by simp;omega) (by simp;omega) (by simp;omega) (fun i=>by
   have:=h (i+1)
   simpa [List.getD_eq_getElem?_getD,Nat.add_comm] using this) x]
  rw [Int.mul_add]
  omega
theorem peval_padd (ps qs:List Int) (x:Int):peval (padd ps qs) x=peval ps x+peval qs x :=
 peval_padd_aux (max (max ps.length qs.length) (padd ps qs).length) ps qs _ (by omega) (by omega) (by omega) (getD_padd ps qs) x
theorem peval_pneg (ps:List Int) (x:Int):peval (pneg ps) x = -peval ps x:=by
 induction ps with
 | nil=>rfl
 | cons p ps ih =>
  have:pneg (p::ps) = -p::pneg ps:=rfl
  rw [this]
  simp only [peval,ih]
  rw [Int.mul_neg]
  omega
def vp (rs : List Rn) : Reg := .val (.sl rs.length (pc rs))
def bR (r : Rn) : Reg := .box [.bool r.1, .sl r.2.length (lm r.2)]
def bN (n : Int) : Reg := .box [.bool (decide (n < 0)), .sl ((limbs (Int.natAbs n)).length) (lm (limbs (Int.natAbs n)))]
end Go.Ai

namespace Go.Ai
open Go.IntKind (i64 u64 u32)
section
variable {prog:Nat→Option IFunc}
theorem RunsC.cond_t {c:Opd} {a b:ICode} {s t:State} {ex:Ex} (h:c.av s=some (.bool true)) (h1:RunsC prog a s ex t):RunsC prog (.cond c a b) s ex t:=by
 obtain ⟨n,h1⟩:=h1
 refine ⟨n+1,?_⟩
 have e1:=evC_le (evF_le prog (show n≤n+1 by omega)) (Nat.le_refl n) h1
 simp only [evC,condA,h,e1]
theorem RunsC.cond_f {c:Opd} {a b:ICode} {s t:State} {ex:Ex} (h:c.av s=some (.bool false)) (h1:RunsC prog b s ex t):RunsC prog (.cond c a b) s ex t:=by
 obtain ⟨n,h1⟩:=h1
 refine ⟨n+1,?_⟩
 have e1:=evC_le (evF_le prog (show n≤n+1 by omega)) (Nat.le_refl n) h1
 simp only [evC,condA,h,e1]
theorem RunsW.cond_t {c:Opd} {a b:ICode} {s t:State} {ex:Ex} {x:Bool} (h:c.av s=some (.bool x)) (hx:x=true) (h1:RunsW prog a s ex t):RunsW prog (.cond c a b) s ex t:=by
 subst hx
 obtain ⟨u,k1,k2⟩:=h1
 exact ⟨u,RunsC.cond_t h k1,k2⟩
theorem RunsW.cond_f {c:Opd} {a b:ICode} {s t:State} {ex:Ex} {x:Bool} (h:c.av s=some (.bool x)) (hx:x=false) (h1:RunsW prog b s ex t):RunsW prog (.cond c a b) s ex t:=by
 subst hx
 obtain ⟨u,k1,k2⟩:=h1
 exact ⟨u,RunsC.cond_f h k1,k2⟩
theorem RunsW.block_out {id:Nat} {c:ICode} {s t:State} {i:Nat} (h:RunsW prog c s (.exit i) t) (hi:i ≠ id):RunsW prog (.block id c) s (.exit i) t:=by
 obtain ⟨u,k1,k2⟩:=h
 exact ⟨u,RunsC.block_out k1 hi,k2⟩
theorem RunsW.up {c:ICode} {ex:Ex} {fin:State} (st:Nat→State) (n:Nat) (hex:ex ≠ .norm) (step:∀ i,i<n→RunsW prog c (st i) .norm (st (i+1))) (out:RunsW prog c (st n) ex fin):∀ i,i≤n→RunsW prog (.loop c) (st i) ex fin:=by
 have key:∀ r i,i+r=n→RunsW prog (.loop c) (st i) ex fin:=by
  intro r
  induction r with
  | zero =>
   intro i hi
   have:i=n:=by omega
   subst this
   exact RunsW.loop_out out hex
  | succ r ih =>
   intro i hi
   exact RunsW.loop (step i (by omega)) (ih (i+1) (by omega))
 intro i hi
 exact key (n-i) i (by omega)
theorem RunsW.to {c:ICode} {ex:Ex} {s t s' t':State} (h:RunsW prog c s ex t) (hs:s=s') (ht:t=t'):RunsW prog c s' ex t':=hs ▸ ht ▸ h
end
theorem toNat_lt {X:Int} {n:Nat} (h:0≤X∧X<(n:Int)):Int.toNat X<n:=by omega
theorem take_limI {xs:List Int} {X:Int} (h:0≤X∧X<(xs.length:Int)):takeA (List.drop (Int.toNat X*1) (lm xs)) 0 1 true=some (.int .u32 (xs.getD (Int.toNat X) 0)):=take_lim (toNat_lt h)
theorem lm_slice (ws:List Int) (l h:Nat):List.take ((h-l)*1) (List.drop (l*1) (lm ws))=lm ((ws.drop l).take (h-l)):=by
 simp [lm,List.map_take,List.map_drop]
theorem takeS_limI {ws:List Int} {l h m:Nat} {X:Int} {a b:Bool} (hx:0≤X∧X<((h-l:Nat):Int)) (hl:l≤h∧h≤m∧m≤ws.length∧(a=true→b=true)):takeA (List.drop (Int.toNat X*1) (List.take ((h-l)*1) (List.drop (l*1) (lm ws)))) 0 1 true=some (.int .u32 (((ws.drop l).take (h-l)).getD (Int.toNat X) 0)):=by
 rw [lm_slice];exact take_lim (by have:=toNat_lt hx;simp;omega)
theorem own_limI {xs:List Int} {n:Nat} (hl:xs.length=n) {X:Int} (h:0≤X∧X<(n:Int)):takeA (lm xs) (Int.toNat X*1) 1 true=some (.int .u32 (xs.getD (Int.toNat X) 0)):=own_lim (hl ▸ toNat_lt h)
theorem lay_limI {xs:List Int} {n:Nat} (hl:xs.length=n) {X:Int} (h:0≤X∧X<(n:Int)) {v:Int}:layA (lm xs) (Int.toNat X*1) [.int .u32 v]=some (lm (xs.set (Int.toNat X) v)):=lay_lim (hl ▸ toNat_lt h)
theorem take_pcI {rs:List Rn} {X:Int} (h:0≤X∧X<(rs.length:Int)):takeA (List.drop (Int.toNat X*2) (pc rs)) 0 2 false=some (rawAV (rs.getD (Int.toNat X) z0)):=take_pc (toNat_lt h)
theorem own_pcI {rs:List Rn} {n:Nat} (hl:rs.length=n) {X:Int} (h:0≤X∧X<(n:Int)):takeA (pc rs) (Int.toNat X*2) 2 false=some (rawAV (rs.getD (Int.toNat X) z0)):=own_pc (hl ▸ toNat_lt h)
theorem lay_pcI {rs:List Rn} {n:Nat} (hl:rs.length=n) {X:Int} (h:0≤X∧X<(n:Int)) {r:Rn}:layA (pc rs) (Int.toNat X*2) [.bool r.1, .sl r.2.length (lm r.2)]=some (pc (rs.set (Int.toNat X) r)):=lay_pc (hl ▸ toNat_lt h)
theorem drop_pc_cons {rs:List Rn} {i:Nat} (h:i<rs.length):List.drop (i*2) (pc rs) = .bool (rs.getD i z0).1 :: .sl (rs.getD i z0).2.length (lm (rs.getD i z0).2)::pc (rs.drop (i+1)):=by
 rw [pc_drop,List.drop_eq_getElem_cons h,pc_cons]
 simp [List.getD_eq_getElem?_getD,List.getElem?_eq_getElem h]
theorem take_pcL {rs:List Rn} {X:Int} (h:0≤X∧X<(rs.length:Int)):takeA (List.drop 1 (List.drop (Int.toNat X*2) (pc rs))) 0 1 true=some (.sl (rs.getD (Int.toNat X) z0).2.length (lm (rs.getD (Int.toNat X) z0).2)):=by
 rw [drop_pc_cons (toNat_lt h)];rfl
def pp (ps:List (List Rn)):List AV:=ps.map fun rs => .sl rs.length (pc rs)
theorem pp_get {ps:List (List Rn)} {i:Nat} (h:i<ps.length):(pp ps)[i]?=some (.sl (ps.getD i []).length (pc (ps.getD i []))):=by
 simp [pp,List.getElem?_map,List.getElem?_eq_getElem h,List.getD_eq_getElem?_getD]
theorem take_ppI {ps:List (List Rn)} {X:Int} (h:0≤X∧X<(ps.length:Int)):takeA (List.drop (Int.toNat X*1) (pp ps)) 0 1 true=some (.sl (ps.getD (Int.toNat X) []).length (pc (ps.getD (Int.toNat X) []))):=by
 simp only [takeA,if_true,Nat.mul_one,List.getElem?_drop,Nat.add_zero]
 exact pp_get (toNat_lt h)
end Go.Ai

namespace Go.Ai
open Go.IntKind (i64 u64 u32)
theorem peval_set (xs:List Int) (i:Nat) (v x:Int) (h:i<xs.length):peval (xs.set i v) x=peval xs x+x^i*(v-xs.getD i 0):=by
 induction xs generalizing i with
 | nil=>simp at h
 | cons p ps ih =>
  cases i with
  | zero=>simp only [List.set_cons_zero,peval,Int.pow_zero,List.getD_cons_zero];omega
  | succ i =>
   simp only [List.set_cons_succ,peval,List.getD_cons_succ]
   rw [ih i (by simpa using h),Int.pow_succ]
   generalize x^i=q
   generalize peval ps x=y
   generalize ps.getD i 0=z
   grind
theorem peval_zeros (n:Nat) (x:Int):peval (List.replicate n 0) x=0:=by
 induction n with
 | zero=>rfl
 | succ n ih=>simp [List.replicate_succ,peval,ih]
theorem pzero:∀ (d:List Int) (b:Int),(∀ x,b≤x→peval d x=0)→∀ i,d.getD i 0=0
 | [],_,_,i=>by simp
 | c::d,b,h,i=>by
  have hc:c=0:=by
   have h1:=h (max b (c.natAbs+1)) (by omega)
   simp only [peval] at h1
   have h2:(max b ((c.natAbs:Int)+1))∣c:=⟨-(peval d (max b ((c.natAbs:Int)+1))),by rw [Int.mul_neg];omega⟩
   rcases Int.lt_trichotomy c 0 with g | g | g
   ·have:=Int.le_of_dvd (a:=max b ((c.natAbs:Int)+1)) (b := -c) (by omega) ((Int.dvd_neg).2 h2)
    omega
   ·exact g
   ·have:=Int.le_of_dvd (a:=max b ((c.natAbs:Int)+1)) (b:=c) (by omega) h2
    omega
  cases i with
  | zero=>simpa using hc
  | succ i =>
   have:=pzero d (max b 1) (fun x hx=>by
    have h1:=h x (by omega)
    simp only [peval,hc,Int.zero_add] at h1
    rcases Int.mul_eq_zero.1 h1 with g | g
    ·omega
    ·exact g) i
   simpa using this
theorem peval_inj' {p q:List Int} (h:∀ x,peval p x=peval q x) (i:Nat):p.getD i 0=q.getD i 0:=by
 have:=pzero (padd p (pneg q)) 0 (fun x _=>by rw [peval_padd,peval_pneg,h x];omega) i
 rw [getD_padd,getD_pneg] at this
 omega
theorem peval_inj {p q:List Int} (h:∀ x,peval p x=peval q x):trimL p=trimL q:=trim_ext (peval_inj' h)
def psub (p q:List Int):List Int:=padd p (pneg q)
theorem peval_psub (p q:List Int) (x:Int):peval (psub p q) x=peval p x-peval q x:=by rw [psub,peval_padd,peval_pneg];omega
def psmul (a:Int) (q:List Int):List Int:=q.map fun x=>a*x
theorem peval_psmul (a:Int) (q:List Int) (x:Int):peval (psmul a q) x=a*peval q x:=by
 induction q with
 | nil=>simp [psmul,peval]
 | cons c q ih =>
  have:psmul a (c::q)=a*c::psmul a q:=rfl
  rw [this]
  simp only [peval,ih]
  generalize peval q x=y
  grind
theorem getD_psmul (a:Int) (q:List Int) (i:Nat):(psmul a q).getD i 0=a*q.getD i 0:=by
 unfold psmul
 simp only [List.getD_eq_getElem?_getD,List.getElem?_map]
 cases q[i]? <;> simp
def pmul:List Int→List Int→List Int
 | [],_=>[]
 | a::p,q=>padd (psmul a q) (0::pmul p q)
theorem peval_pmul (p q:List Int) (x:Int):peval (pmul p q) x=peval p x*peval q x:=by
 induction p with
 | nil=>simp [pmul,peval]
 | cons a p ih =>
  simp only [pmul,peval_padd,peval_psmul,peval,ih]
  generalize peval q x=y
  generalize peval p x=z
  grind
theorem pmul_trim (p q:List Int):trimL (pmul p q)=pmul p q:=by
 cases p with
 | nil=>rfl
 | cons a p=>exact padd_trim _ _
theorem fits_mem_padd {k:Nat} {p q:List Int} (hp:∀ x∈p,Fits k x) (hq:∀ x∈q,Fits k x):∀ x∈padd p q,Fits (k+1) x:=by
 intro x hx
 have h1:=mem_trim hx
 obtain ⟨i,_,rfl⟩:=List.mem_map.1 h1
 exact (fits_getD hp i).add (fits_getD hq i)
theorem fits_mem_pneg {k:Nat} {p:List Int} (hp:∀ x∈p,Fits k x):∀ x∈pneg p,Fits k x:=by
 intro x hx
 obtain ⟨y,hy,rfl⟩:=List.mem_map.1 hx
 exact (hp y hy).neg
theorem fits_mem_psub {k:Nat} {p q:List Int} (hp:∀ x∈p,Fits k x) (hq:∀ x∈q,Fits k x):∀ x∈psub p q,Fits (k+1) x:=fits_mem_padd hp (fits_mem_pneg hq)
theorem fits_mem_trim {k:Nat} {p:List Int} (hp:∀ x∈p,Fits k x):∀ x∈trimL p,Fits k x:=fun x hx=>hp x (mem_trim hx)
theorem fits_mem_pmul {j k:Nat} {p q:List Int} (hp:∀ x∈p,Fits j x) (hq:∀ x∈q,Fits k x):∀ x∈pmul p q,Fits (j+k+p.length) x:=by
 induction p with
 | nil=>intro x hx;cases hx
 | cons a p ih =>
  intro x hx
  have h1:∀ y∈psmul a q,Fits (j+k+p.length) y:=by
   intro y hy
   obtain ⟨z,hz,rfl⟩:=List.mem_map.1 hy
   exact ((hp a List.mem_cons_self).mul (hq z hz)).mono (by omega)
  have h2:∀ y∈(0::pmul p q),Fits (j+k+p.length) y:=by
   intro y hy
   rcases List.mem_cons.1 hy with rfl | hy
   ·exact fits_zero _
   ·exact ih (fun z hz=>hp z (List.mem_cons_of_mem _ hz)) y hy
  exact (fits_mem_padd h1 h2 x hx).mono (by simp;omega)
theorem padd_len (p q:List Int):(padd p q).length≤max p.length q.length:=by
 have:=trim_len ((List.range (max p.length q.length)).map fun i=>p.getD i 0+q.getD i 0)
 simpa [padd] using this
theorem pmul_len (p q:List Int):(pmul p q).length≤p.length+q.length:=by
 induction p with
 | nil=>simp [pmul]
 | cons a p ih =>
  have:=padd_len (psmul a q) (0::pmul p q)
  have h2:(psmul a q).length=q.length:=by simp [psmul]
  simp only [pmul,List.length_cons] at this ⊢
  omega
theorem pneg_len (p:List Int):(pneg p).length=p.length:=by simp [pneg]
theorem psub_len (p q:List Int):(psub p q).length≤max p.length q.length:=by
 have:=padd_len p (pneg q)
 rwa [pneg_len] at this
theorem peval_take_succ (xs:List Int) (j:Nat) (x:Int):peval (xs.take (j+1)) x=peval (xs.take j) x+x^j*xs.getD j 0:=by
 induction xs generalizing j with
 | nil=>simp [peval]
 | cons p ps ih =>
  cases j with
  | zero=>simp [peval]
  | succ j =>
   simp only [List.take_succ_cons,peval,List.getD_cons_succ,ih j,Int.pow_succ]
   generalize x^j=q
   generalize peval (ps.take j) x=y
   generalize ps.getD j 0=z
   grind
def tIn (rs ss os:List Rn) (i:Nat):Nat→List Rn
 | 0=>os
 | j+1=>(tIn rs ss os i j).set (i+j) (cn (rval ((tIn rs ss os i j).getD (i+j) z0)+rval (rs.getD i z0)*rval (ss.getD j z0)))
def tOut (rs ss os:List Rn) (m:Nat):Nat→List Rn
 | 0=>os
 | i+1=>tIn rs ss (tOut rs ss os m i) i m
theorem tIn_length (rs ss os:List Rn) (i j:Nat):(tIn rs ss os i j).length=os.length:=by
 induction j with
 | zero=>rfl
 | succ j ih=>simp only [tIn,List.length_set,ih]
theorem tOut_length (rs ss os:List Rn) (m i:Nat):(tOut rs ss os m i).length=os.length:=by
 induction i with
 | zero=>rfl
 | succ i ih=>rw [tOut,tIn_length,ih]
theorem tIn_far (rs ss os:List Rn) (i j t:Nat) (h:i+j≤t):(tIn rs ss os i j).getD t z0=os.getD t z0:=by
 induction j with
 | zero=>rfl
 | succ j ih =>
  rw [tIn,List.getD_eq_getElem?_getD,List.getElem?_set_ne (by omega),← List.getD_eq_getElem?_getD]
  exact ih (by omega)
theorem tIn_good {K B:Nat} {rs ss os:List Rn} (hr:∀ r∈rs,Good K r) (hs:∀ r∈ss,Good K r) (ho:∀ r∈os,Good B r) (hB:2*K≤B) (i j:Nat):∀ r∈tIn rs ss os i j,Good (B+1) r:=by
 induction j with
 | zero=>exact fun r h=>(ho r h).mono (by omega)
 | succ j ih =>
  rw [tIn]
  refine good_set ih ?_
  rw [tIn_far _ _ _ _ _ _ (Nat.le_refl _)]
  exact good_cn ((good_getD ho _).fits.add (((good_getD hr i).fits.mul (good_getD hs j).fits).mono (by omega)))
theorem tOut_good {K:Nat} {rs ss os:List Rn} (hr:∀ r∈rs,Good K r) (hs:∀ r∈ss,Good K r) (ho:∀ r∈os,Good (2*K) r) (m i:Nat):∀ r∈tOut rs ss os m i,Good (2*K+i) r:=by
 induction i with
 | zero=>exact ho
 | succ i ih=>exact tIn_good hr hs ih (by omega) i m
theorem tIn_eval (rs ss os:List Rn) (i:Nat) (x:Int):∀ j,i+j≤os.length→peval (vals (tIn rs ss os i j)) x=peval (vals os) x+x^i*(rval (rs.getD i z0)*peval ((vals ss).take j) x):=by
 intro j
 induction j with
 | zero=>intro _;simp [tIn,peval]
 | succ j ih =>
  intro h
  have h1:=ih (by omega)
  rw [tIn,vals_set,peval_set _ _ _ _ (by rw [vals_length,tIn_length];omega),h1,rval_cn,vals_getD,peval_take_succ,vals_getD,Int.pow_add]
  generalize x^i=p
  generalize x^j=q
  generalize peval ((vals ss).take j) x=y
  grind
theorem tOut_eval (rs ss:List Rn) (m n:Nat) (x:Int):∀ i,i+m≤n+1→peval (vals (tOut rs ss (List.replicate n z0) m i)) x=peval ((vals rs).take i) x*peval ((vals ss).take m) x:=by
 intro i
 induction i with
 | zero=>intro _;simp [tOut,vals_zeros,peval_zeros,peval]
 | succ i ih =>
  intro h
  rw [tOut,tIn_eval _ _ _ _ _ _ (by rw [tOut_length];simp;omega),ih (by omega),peval_take_succ,vals_getD]
  generalize x^i=p
  grind
theorem tOut_mul (rs ss:List Rn) (a b n:Nat) (ha:a=topN (vals rs) rs.length) (hb:b=topN (vals ss) ss.length) (hn:a+b≤n+1):trimL (vals (tOut rs ss (List.replicate n z0) b a))=pmul (vals rs) (vals ss):=by
 rw [← pmul_trim]
 apply peval_inj
 intro x
 rw [tOut_eval _ _ _ _ _ _ hn,peval_pmul]
 have h1:(vals rs).take a=trimL (vals rs):=by rw [trimL,vals_length,ha]
 have h2:(vals ss).take b=trimL (vals ss):=by rw [trimL,vals_length,hb]
 rw [h1,h2,peval_trim,peval_trim]
theorem pmul_zero_left {p q:List Int} (h:topN p p.length=0):pmul p q=[]:=by
 have h1:trimL p=[]:=by rw [trimL,h];rfl
 rw [← pmul_trim]
 have:trimL (pmul p q)=trimL []:=peval_inj fun x=>by
  rw [peval_pmul,← peval_trim p,h1];simp [peval]
 rw [this];rfl
theorem pmul_zero_right {p q:List Int} (h:topN q q.length=0):pmul p q=[]:=by
 have h1:trimL q=[]:=by rw [trimL,h];rfl
 rw [← pmul_trim]
 have:trimL (pmul p q)=trimL []:=peval_inj fun x=>by
  rw [peval_pmul,← peval_trim q,h1];simp [peval]
 rw [this];rfl
def hv:List Int→Int→Int→Int
 | [],_,_=>0
 | t::ts,x,d=>t*d^ts.length+x*hv ts x d
end Go.Ai

namespace Go.Proofs.Ythnnfemologhfaa
open Go.IntKind (i64 u64 u32)
open Go.Ai
set_option maxRecDepth 100000
theorem Yrun81r_1 (neg:Bool) (xs:List Int) (c1:((((trimL xs).length:Nat):Int)==0)=true) (n1:Runs Yir 125 [.sl xs.length (lm xs)] (.fresh 1 ((trimL xs).length) (lm (trimL xs)))):Runs Yir 81 [.agg [.bool neg, .sl xs.length (lm xs)]] (.int .i64 0):=Runs.go (fn:=Yi81) TBC_holds rfl 400 rfl [.r (.fresh 1 ((trimL xs).length) (lm (trimL xs))), .b true] (ac n1 (ac c1 a0)) (by kernel_rfl)
theorem Yrun81r_2 (neg:Bool) (xs:List Int) (c1:((((trimL xs).length:Nat):Int)==0)=false) (c2:(neg)=true) (n1:Runs Yir 125 [.sl xs.length (lm xs)] (.fresh 1 ((trimL xs).length) (lm (trimL xs)))):Runs Yir 81 [.agg [.bool neg, .sl xs.length (lm xs)]] (.int .i64 (-1)):=Runs.go (fn:=Yi81) TBC_holds rfl 400 rfl [.r (.fresh 1 ((trimL xs).length) (lm (trimL xs))), .b false, .b true] (ac n1 (ac c1 (ac c2 a0))) (by kernel_rfl)
theorem Yrun81r_3 (neg:Bool) (xs:List Int) (c1:((((trimL xs).length:Nat):Int)==0)=false) (c2:(neg)=false) (n1:Runs Yir 125 [.sl xs.length (lm xs)] (.fresh 1 ((trimL xs).length) (lm (trimL xs)))):Runs Yir 81 [.agg [.bool neg, .sl xs.length (lm xs)]] (.int .i64 1):=Runs.go (fn:=Yi81) TBC_holds rfl 400 rfl [.r (.fresh 1 ((trimL xs).length) (lm (trimL xs))), .b false, .b false] (ac n1 (ac c1 (ac c2 a0))) (by kernel_rfl)
theorem Yrun117 (neg:Bool) (xs:List Int) (v:Int) (n1:Runs Yir 106 [.bool (!neg), .sl xs.length (lm xs)] (bigF v)):Runs Yir 117 [.agg [.bool neg, .sl xs.length (lm xs)]] (bigAV v):=Runs.go (fn:=Yi117) TBC_holds rfl 400 rfl [.r (bigF v)] (ac n1 a0) (by kernel_rfl)
theorem Yrun93 (neg:Bool) (xs:List Int) (v:Int) (n1:Runs Yir 106 [.bool neg, .sl xs.length (lm xs)] (bigF v)):Runs Yir 93 [.agg [.bool neg, .sl xs.length (lm xs)]] (bigAV v):=Runs.go (fn:=Yi93) TBC_holds rfl 400 rfl [.r (bigF v)] (ac n1 a0) (by kernel_rfl)
def Ys138 (xs:List Int) (ys:List Int) (n:Nat) (cs:List AV) (c:Int) (i:Int):State:=(.val (.sl xs.length (lm xs))::(.val (.sl ys.length (lm ys))::(dds 3 (.own 1 n cs::(.val (.int .u64 c)::(.val (.int .i64 i)::(dds 46 [])))))))
theorem Yk138_1 (xs:List Int) (ys:List Int) (n:Nat) (cs:List AV) (c:Int) (i:Int)  (c1:(decide (i<(xs.length:Int)))=true) (c2:(decide (i<(ys.length:Int)))=true) (n1:0≤i∧i<(xs.length:Int)) (n2:0≤i∧i<(ys.length:Int)) (n3:n+1≤1048576):RunsW Yir Yc138 (Ys138 xs ys n cs c i) .norm (Ys138 xs ys (n+1) (cs++([.int .u32 (u32.wrap (u64.wrap ((u64.wrap (c+(u64.wrap (xs.getD (Int.toNat i) 0))))+(u64.wrap (ys.getD (Int.toNat i) 0)))))]:List AV)) (Int.fdiv (u64.wrap ((u64.wrap (c+(u64.wrap (xs.getD (Int.toNat i) 0))))+(u64.wrap (ys.getD (Int.toNat i) 0)))) (2^(min (Int.toNat 32) (IntKind.bits .u64)))) (i64.wrap (i+1))):=(RunsW.go TBC_holds 400 [.b true, .b true, .b true, .b true, .v (.int .u32 (xs.getD (Int.toNat i) 0)), .b true, .v (.int .u32 (ys.getD (Int.toNat i) 0))] [0,1,5,6,7] (ac c1 (ac (show true=true from rfl) (ac (show true=true from rfl) (ac c1 (ac n1 (ac (take_limI n1) (ac c2 (ac n2 (ac (take_limI n2) (ac (show List.length ([.int .u32 (u32.wrap (u64.wrap ((u64.wrap (c+(u64.wrap (xs.getD (Int.toNat i) 0))))+(u64.wrap (ys.getD (Int.toNat i) 0)))))]:List AV)=1*1 from rfl) (ac n3 (ac (show ¬ (32:Int)<0 from (by decide)) a0)))))))))))) (by kernel_rfl))
theorem Yk138_2 (xs:List Int) (ys:List Int) (n:Nat) (cs:List AV) (c:Int) (i:Int)  (c1:(decide (i<(xs.length:Int)))=true) (c2:(decide (i<(ys.length:Int)))=false) (n1:0≤i∧i<(xs.length:Int)) (n2:n+1≤1048576):RunsW Yir Yc138 (Ys138 xs ys n cs c i) .norm (Ys138 xs ys (n+1) (cs++([.int .u32 (u32.wrap (u64.wrap (c+(u64.wrap (xs.getD (Int.toNat i) 0)))))]:List AV)) (Int.fdiv (u64.wrap (c+(u64.wrap (xs.getD (Int.toNat i) 0)))) (2^(min (Int.toNat 32) (IntKind.bits .u64)))) (i64.wrap (i+1))):=(RunsW.go TBC_holds 400 [.b true, .b true, .b true, .b true, .v (.int .u32 (xs.getD (Int.toNat i) 0)), .b false] [0,1,5,6,7] (ac c1 (ac (show true=true from rfl) (ac (show true=true from rfl) (ac c1 (ac n1 (ac (take_limI n1) (ac c2 (ac (show List.length ([.int .u32 (u32.wrap (u64.wrap (c+(u64.wrap (xs.getD (Int.toNat i) 0)))))]:List AV)=1*1 from rfl) (ac n2 (ac (show ¬ (32:Int)<0 from (by decide)) a0)))))))))) (by kernel_rfl))
theorem Yk138_3 (xs:List Int) (ys:List Int) (n:Nat) (cs:List AV) (c:Int) (i:Int)  (c1:(decide (i<(xs.length:Int)))=false) (c2:(decide (i<(ys.length:Int)))=true) (n1:0≤i∧i<(ys.length:Int)) (n2:n+1≤1048576):RunsW Yir Yc138 (Ys138 xs ys n cs c i) .norm (Ys138 xs ys (n+1) (cs++([.int .u32 (u32.wrap (u64.wrap (c+(u64.wrap (ys.getD (Int.toNat i) 0)))))]:List AV)) (Int.fdiv (u64.wrap (c+(u64.wrap (ys.getD (Int.toNat i) 0)))) (2^(min (Int.toNat 32) (IntKind.bits .u64)))) (i64.wrap (i+1))):=(RunsW.go TBC_holds 400 [.b false, .b true, .b true, .b false, .b true, .v (.int .u32 (ys.getD (Int.toNat i) 0))] [0,1,5,6,7] (ac c1 (ac c2 (ac (show true=true from rfl) (ac c1 (ac c2 (ac n1 (ac (take_limI n1) (ac (show List.length ([.int .u32 (u32.wrap (u64.wrap (c+(u64.wrap (ys.getD (Int.toNat i) 0)))))]:List AV)=1*1 from rfl) (ac n2 (ac (show ¬ (32:Int)<0 from (by decide)) a0)))))))))) (by kernel_rfl))
theorem Yk138_4 (xs:List Int) (ys:List Int) (n:Nat) (cs:List AV) (c:Int) (i:Int)  (c1:(decide (i<(xs.length:Int)))=false) (c2:(decide (i<(ys.length:Int)))=false) (c3:(decide (c>0))=true) (n1:n+1≤1048576):RunsW Yir Yc138 (Ys138 xs ys n cs c i) .norm (Ys138 xs ys (n+1) (cs++([.int .u32 (u32.wrap c)]:List AV)) (Int.fdiv c (2^(min (Int.toNat 32) (IntKind.bits .u64)))) (i64.wrap (i+1))):=(RunsW.go TBC_holds 400 [.b false, .b false, .b true, .b false, .b false] [0,1,5,6,7] (ac c1 (ac c2 (ac c3 (ac c1 (ac c2 (ac (show List.length ([.int .u32 (u32.wrap c)]:List AV)=1*1 from rfl) (ac n1 (ac (show ¬ (32:Int)<0 from (by decide)) a0)))))))) (by kernel_rfl))
theorem Yk138_5 (xs:List Int) (ys:List Int) (n:Nat) (cs:List AV) (c:Int) (i:Int)  (c1:(decide (i<(xs.length:Int)))=false) (c2:(decide (i<(ys.length:Int)))=false) (c3:(decide (c>0))=false):RunsW Yir Yc138 (Ys138 xs ys n cs c i) (.exit 0) (Ys138 xs ys n cs c i):=(RunsW.go TBC_holds 400 [.b false, .b false, .b false] [0,1,5,6,7] (ac c1 (ac c2 (ac c3 a0))) (by kernel_rfl))
theorem Yrun138 (xs ys:List Int) (n:Nat) (cs:List AV) (c i:Int) (hl1:RunsW Yir (.loop Yc138) (Ys138 xs ys 0 [] 0 0) (.exit 0) (Ys138 xs ys n cs c i)):Runs Yir 138 [.sl xs.length (lm xs), .sl ys.length (lm ys)] (.fresh 1 n cs):=Runs.of_bodyW (fn:=Yi138) (s:=(dds 1 (.val (.sl ys.length (lm ys))::(dds 2 (.own 1 n cs::(dds 49 [])))))) (ex := .ret) rfl rfl (RunsW.seq (RunsW.go (t:=(vl xs::(vl ys::(dds 2 (.own 1 0 []::(dds 49 [])))))) (ex := .norm) TBC_holds 400 [] [0,1,4] a0 (by kernel_rfl)) (RunsW.seq (RunsW.go (t:=(vl xs::(vl ys::(dds 2 (.own 1 0 []::(.own 1 0 []::(dds 48 []))))))) (ex := .norm) TBC_holds 400 [] [0,1,4,5] a0 (by kernel_rfl)) (RunsW.seq (RunsW.go (t:=(vl xs::(vl ys::(dds 2 (.own 1 0 []::(.own 1 0 []::(.val (.int .u64 0)::(dds 47 [])))))))) (ex := .norm) TBC_holds 400 [] [0,1,4,5,6] a0 (by kernel_rfl)) (RunsW.seq (RunsW.seq (RunsW.go TBC_holds 400 [] [0,1,5,6,7] a0 (by kernel_rfl)) (RunsW.block hl1)) (RunsW.go TBC_holds 400 [] [1,4] a0 (by kernel_rfl)))))) (by intro i e;cases e) rfl
def Ys140 (xs:List Int) (ys:List Int) (n:Nat) (cs:List AV) (c:Int) (i:Int):State:=(.val (.sl xs.length (lm xs))::(.val (.sl ys.length (lm ys))::(dds 3 (.own 1 n cs::(.val (.int .u64 c)::(.val (.int .i64 i)::(dds 34 [])))))))
theorem Yk140_1 (xs:List Int) (ys:List Int) (n:Nat) (cs:List AV) (c:Int) (i:Int)  (c1:(decide (i<(xs.length:Int)))=true) (c2:(decide (i<(ys.length:Int)))=true) (n1:0≤i∧i<(ys.length:Int)) (n2:0≤i∧i<(xs.length:Int)) (n3:n+1≤1048576):RunsW Yir Yc140 (Ys140 xs ys n cs c i) .norm (Ys140 xs ys (n+1) (cs++([.int .u32 (u32.wrap (u64.wrap ((u64.wrap ((u64.wrap (xs.getD (Int.toNat i) 0))-(u64.wrap (ys.getD (Int.toNat i) 0))))-c)))]:List AV)) (Int.fdiv (u64.wrap ((u64.wrap ((u64.wrap (xs.getD (Int.toNat i) 0))-(u64.wrap (ys.getD (Int.toNat i) 0))))-c)) (2^(min (Int.toNat 63) (IntKind.bits .u64)))) (i64.wrap (i+1))):=(RunsW.go TBC_holds 400 [.b true, .b true, .v (.int .u32 (ys.getD (Int.toNat i) 0)), .v (.int .u32 (xs.getD (Int.toNat i) 0))] [0,1,5,6,7] (ac c1 (ac c2 (ac n1 (ac (take_limI n1) (ac n2 (ac (take_limI n2) (ac (show List.length ([.int .u32 (u32.wrap (u64.wrap ((u64.wrap ((u64.wrap (xs.getD (Int.toNat i) 0))-(u64.wrap (ys.getD (Int.toNat i) 0))))-c)))]:List AV)=1*1 from rfl) (ac n3 (ac (show ¬ (63:Int)<0 from (by decide)) a0))))))))) (by kernel_rfl))
theorem Yk140_2 (xs:List Int) (ys:List Int) (n:Nat) (cs:List AV) (c:Int) (i:Int)  (c1:(decide (i<(xs.length:Int)))=true) (c2:(decide (i<(ys.length:Int)))=false) (n1:0≤i∧i<(xs.length:Int)) (n2:n+1≤1048576):RunsW Yir Yc140 (Ys140 xs ys n cs c i) .norm (Ys140 xs ys (n+1) (cs++([.int .u32 (u32.wrap (u64.wrap ((u64.wrap ((u64.wrap (xs.getD (Int.toNat i) 0))-0))-c)))]:List AV)) (Int.fdiv (u64.wrap ((u64.wrap ((u64.wrap (xs.getD (Int.toNat i) 0))-0))-c)) (2^(min (Int.toNat 63) (IntKind.bits .u64)))) (i64.wrap (i+1))):=(RunsW.go TBC_holds 400 [.b true, .b false, .v (.int .u32 (xs.getD (Int.toNat i) 0))] [0,1,5,6,7] (ac c1 (ac c2 (ac n1 (ac (take_limI n1) (ac (show List.length ([.int .u32 (u32.wrap (u64.wrap ((u64.wrap ((u64.wrap (xs.getD (Int.toNat i) 0))-0))-c)))]:List AV)=1*1 from rfl) (ac n2 (ac (show ¬ (63:Int)<0 from (by decide)) a0))))))) (by kernel_rfl))
theorem Yk140_3 (xs:List Int) (ys:List Int) (n:Nat) (cs:List AV) (c:Int) (i:Int)  (c1:(decide (i<(xs.length:Int)))=false):RunsW Yir Yc140 (Ys140 xs ys n cs c i) (.exit 0) (Ys140 xs ys n cs c i):=(RunsW.go TBC_holds 400 [.b false] [0,1,5,6,7] (ac c1 a0) (by kernel_rfl))
theorem Yrun140 (xs ys:List Int) (n:Nat) (cs:List AV) (c i:Int) (hl1:RunsW Yir (.loop Yc140) (Ys140 xs ys 0 [] 0 0) (.exit 0) (Ys140 xs ys n cs c i)):Runs Yir 140 [.sl xs.length (lm xs), .sl ys.length (lm ys)] (.fresh 1 n cs):=Runs.of_bodyW (fn:=Yi140) (s:=(dds 1 (.val (.sl ys.length (lm ys))::(dds 2 (.own 1 n cs::(dds 37 [])))))) (ex := .ret) rfl rfl (RunsW.seq (RunsW.go (t:=(vl xs::(vl ys::(dds 2 (.own 1 0 []::(dds 37 [])))))) (ex := .norm) TBC_holds 400 [] [0,1,4] a0 (by kernel_rfl)) (RunsW.seq (RunsW.go (t:=(vl xs::(vl ys::(dds 2 (.own 1 0 []::(.own 1 0 []::(dds 36 []))))))) (ex := .norm) TBC_holds 400 [] [0,1,4,5] a0 (by kernel_rfl)) (RunsW.seq (RunsW.go (t:=(vl xs::(vl ys::(dds 2 (.own 1 0 []::(.own 1 0 []::(.val (.int .u64 0)::(dds 35 [])))))))) (ex := .norm) TBC_holds 400 [] [0,1,4,5,6] a0 (by kernel_rfl)) (RunsW.seq (RunsW.seq (RunsW.go TBC_holds 400 [] [0,1,5,6,7] a0 (by kernel_rfl)) (RunsW.block hl1)) (RunsW.go TBC_holds 400 [] [1,4] a0 (by kernel_rfl)))))) (by intro i e;cases e) rfl
theorem lm_snoc (xs:List Int) (v:Int):lm xs++([.int .u32 v]:List AV)=lm (xs++[v]):=by simp [lm]
theorem u32_snoc {xs:List Int} (h:U32 xs) {v:Int} (hv:0≤v∧v<4294967296):U32 (xs++[v]):=by
 intro x hx
 rcases List.mem_append.1 hx with g | g
 ·exact h x g
 ·rw [List.mem_singleton.1 g];exact hv
theorem valL_snoc (xs:List Int) (v:Int):valL (xs++[v])=valL xs+4294967296^xs.length*v:=by rw [valL_append];simp [valL]
theorem sr32 {s:Int}:Int.fdiv s (2^(min (Int.toNat 32) (IntKind.bits .u64)))=s / 4294967296:=by
 show Int.fdiv s 4294967296=_
 rw [Int.fdiv_eq_ediv_of_nonneg _ (by omega)]
theorem sr63 {s:Int}:Int.fdiv s (2^(min (Int.toNat 63) (IntKind.bits .u64)))=s / 9223372036854775808:=by
 show Int.fdiv s 9223372036854775808=_
 rw [Int.fdiv_eq_ediv_of_nonneg _ (by omega)]
theorem Yloop138 {xs ys:List Int} (hx:U32 xs) (hy:U32 ys) (h1:xs.length<1048576) (h2:ys.length<1048576):∀ (r i:Nat) (acc:List Int) (c:Int),i+r=max xs.length ys.length→acc.length=i→U32 acc→0≤c∧c≤1 →
  ∃ (zs:List Int) (c' i':Int),U32 zs∧zs.length≤max xs.length ys.length+1∧valL zs=valL acc+4294967296^i*(c+valL (xs.drop i)+valL (ys.drop i)) ∧
   RunsW Yir (.loop Yc138) (Ys138 xs ys i (lm acc) c (i:Nat)) (.exit 0) (Ys138 xs ys zs.length (lm zs) c' i'):=by
 intro r
 induction r with
 | zero =>
  intro i acc c hi hl hu hc
  have e1:valL (xs.drop i)=0:=drop_end (by omega)
  have e2:valL (ys.drop i)=0:=drop_end (by omega)
  have g1:decide ((i:Int)<(xs.length:Int))=false:=by simp;omega
  have g2:decide ((i:Int)<(ys.length:Int))=false:=by simp;omega
  by_cases hc0:c=0
  ·refine ⟨acc,c,i,hu,by omega,by rw [e1,e2,hc0];simp,?_⟩
   rw [hl]
   exact RunsW.loop_out (Yk138_5 xs ys i (lm acc) c (i:Nat) g1 g2 (by simp;omega)) (by intro e;cases e)
  ·have hc1:c=1:=by omega
   subst hc1
   refine ⟨acc++[1],0,i64.wrap ((i:Int)+1),u32_snoc hu (by omega),by simp;omega,by rw [valL_snoc,e1,e2,hl];simp,?_⟩
   have k:=Yk138_4 xs ys i (lm acc) 1 (i:Nat) g1 g2 (by simp) (by omega)
   rw [sr32,wu32,show (1:Int) % 4294967296=1 by decide,show (1:Int) / 4294967296=0 by decide,lm_snoc] at k
   have ei:i64.wrap ((i:Int)+1)=((i+1:Nat):Int):=by rw [w64 (by omega) (by omega)];omega
   rw [ei] at k ⊢
   have k2:=Yk138_5 xs ys (i+1) (lm (acc++[1])) 0 ((i+1:Nat):Int) (by simp;omega) (by simp;omega) (by simp)
   have hll:(acc++[1]).length=i+1:=by simp [hl]
   rw [hll]
   exact RunsW.loop k (RunsW.loop_out k2 (by intro e;cases e))
 | succ r ih =>
  intro i acc c hi hl hu hc
  have bx:=getD_u32 hx i
  have byy:=getD_u32 hy i
  have ei:i64.wrap ((i:Int)+1)=((i+1:Nat):Int):=by rw [w64 (by omega) (by omega)];omega
  have step:RunsW Yir Yc138 (Ys138 xs ys i (lm acc) c (i:Nat)) .norm (Ys138 xs ys (i+1) (lm (acc++[(c+xs.getD i 0+ys.getD i 0) % 4294967296])) ((c+xs.getD i 0+ys.getD i 0) / 4294967296) ((i+1:Nat):Int)):=by
   have wx:u64.wrap (xs.getD i 0)=xs.getD i 0:=by rw [wu64m];omega
   have wy:u64.wrap (ys.getD i 0)=ys.getD i 0:=by rw [wu64m];omega
   by_cases g1:i<xs.length <;> by_cases g2:i<ys.length
   ·have k:=Yk138_1 xs ys i (lm acc) c (i:Nat) (by simp;omega) (by simp;omega) (by omega) (by omega) (by omega)
    have w1:u64.wrap (u64.wrap (c+xs.getD i 0)+ys.getD i 0)=c+xs.getD i 0+ys.getD i 0:=by rw [wu64m,wu64m];omega
    simp only [Int.toNat_natCast,wx,wy,w1,sr32,wu32,ei,lm_snoc] at k
    exact k
   ·have k:=Yk138_2 xs ys i (lm acc) c (i:Nat) (by simp;omega) (by simp;omega) (by omega) (by omega)
    have hz:ys.getD i 0=0:=getD_end (by omega)
    have w1:u64.wrap (c+xs.getD i 0)=c+xs.getD i 0+ys.getD i 0:=by rw [wu64m,hz];omega
    simp only [Int.toNat_natCast,wx,w1,sr32,wu32,ei,lm_snoc] at k
    exact k
   ·have k:=Yk138_3 xs ys i (lm acc) c (i:Nat) (by simp;omega) (by simp;omega) (by omega) (by omega)
    have hz:xs.getD i 0=0:=getD_end (by omega)
    have w1:u64.wrap (c+ys.getD i 0)=c+xs.getD i 0+ys.getD i 0:=by rw [wu64m,hz];omega
    simp only [Int.toNat_natCast,wy,w1,sr32,wu32,ei,lm_snoc] at k
    exact k
   ·omega
  obtain ⟨zs,c',i',q1,q2,q3,q4⟩:=ih (i+1) (acc++[(c+xs.getD i 0+ys.getD i 0) % 4294967296]) ((c+xs.getD i 0+ys.getD i 0) / 4294967296) (by omega) (by simp [hl]) (u32_snoc hu (by omega)) (by omega)
  refine ⟨zs,c',i',q1,q2,?_,RunsW.loop step q4⟩
  rw [q3,valL_snoc,hl,drop_val xs i,drop_val ys i,Int.pow_succ]
  have hd:=Int.emod_add_mul_ediv (c+xs.getD i 0+ys.getD i 0) 4294967296
  generalize (c+xs.getD i 0+ys.getD i 0) % 4294967296=m at *
  generalize (c+xs.getD i 0+ys.getD i 0) / 4294967296=d at *
  generalize (4294967296:Int)^i=p at *
  generalize valL (xs.drop (i+1))=X at *
  generalize valL (ys.drop (i+1))=Y at *
  have:c+(xs.getD i 0+4294967296*X)+(ys.getD i 0+4294967296*Y)=m+4294967296*(d+X+Y):=by omega
  rw [this]
  grind
theorem addMag_run {xs ys:List Int} (hx:U32 xs) (hy:U32 ys) (h1:xs.length<1048576) (h2:ys.length<1048576):∃ zs,U32 zs∧valL zs=valL xs+valL ys∧zs.length≤max xs.length ys.length+1∧Runs Yir 138 [.sl xs.length (lm xs), .sl ys.length (lm ys)] (.fresh 1 zs.length (lm zs)):=by
 obtain ⟨zs,c',i',q1,q2,q3,q4⟩:=Yloop138 hx hy h1 h2 (max xs.length ys.length) 0 [] 0 (by omega) rfl (fun x hx=>by cases hx) (by omega)
 refine ⟨zs,q1,by rw [q3];simp [valL],q2,?_⟩
 exact Yrun138 xs ys _ _ _ _ q4
theorem Yloop140 {xs ys:List Int} (hx:U32 xs) (hy:U32 ys) (hl2:ys.length≤xs.length) (h1:xs.length≤1048576):∀ (r i:Nat) (acc:List Int) (c:Int),i+r=xs.length→acc.length=i→U32 acc→0≤c∧c≤1 →
  ∃ (zs:List Int) (c' i':Int),U32 zs∧zs.length=xs.length∧0≤c'∧valL zs-4294967296^xs.length*c'=valL acc+4294967296^i*(valL (xs.drop i)-valL (ys.drop i)-c) ∧
   RunsW Yir (.loop Yc140) (Ys140 xs ys i (lm acc) c (i:Nat)) (.exit 0) (Ys140 xs ys zs.length (lm zs) c' i'):=by
 intro r
 induction r with
 | zero =>
  intro i acc c hi hl hu hc
  have e1:valL (xs.drop i)=0:=drop_end (by omega)
  have e2:valL (ys.drop i)=0:=drop_end (by omega)
  have hii:xs.length=i:=by omega
  refine ⟨acc,c,i,hu,by omega,hc.1,by rw [e1,e2,hii];grind,?_⟩
  rw [hl]
  exact RunsW.loop_out (Yk140_3 xs ys i (lm acc) c (i:Nat) (by simp;omega)) (by intro e;cases e)
 | succ r ih =>
  intro i acc c hi hl hu hc
  have bx:=getD_u32 hx i
  have byy:=getD_u32 hy i
  have ei:i64.wrap ((i:Int)+1)=((i+1:Nat):Int):=by rw [w64 (by omega) (by omega)];omega
  have step:RunsW Yir Yc140 (Ys140 xs ys i (lm acc) c (i:Nat)) .norm (Ys140 xs ys (i+1) (lm (acc++[(xs.getD i 0-ys.getD i 0-c) % 4294967296])) (-((xs.getD i 0-ys.getD i 0-c) / 4294967296)) ((i+1:Nat):Int)):=by
   have wx:u64.wrap (xs.getD i 0)=xs.getD i 0:=by rw [wu64m];omega
   have wy:u64.wrap (ys.getD i 0)=ys.getD i 0:=by rw [wu64m];omega
   by_cases g2:i<ys.length
   ·have k:=Yk140_1 xs ys i (lm acc) c (i:Nat) (by simp;omega) (by simp;omega) (by omega) (by omega) (by omega)
    have w1:u64.wrap (u64.wrap (xs.getD i 0-ys.getD i 0)-c) % 4294967296=(xs.getD i 0-ys.getD i 0-c) % 4294967296:=by rw [wu64m,wu64m];omega
    have w2:u64.wrap (u64.wrap (xs.getD i 0-ys.getD i 0)-c) / 9223372036854775808 = -((xs.getD i 0-ys.getD i 0-c) / 4294967296):=by rw [wu64m,wu64m];omega
    simp only [Int.toNat_natCast,wx,wy,sr63,wu32,w1,w2,ei,lm_snoc] at k
    exact k
   ·have k:=Yk140_2 xs ys i (lm acc) c (i:Nat) (by simp;omega) (by simp;omega) (by omega) (by omega)
    have hz:ys.getD i 0=0:=getD_end (by omega)
    have w1:u64.wrap (u64.wrap (xs.getD i 0-0)-c) % 4294967296=(xs.getD i 0-ys.getD i 0-c) % 4294967296:=by rw [wu64m,wu64m,hz];omega
    have w2:u64.wrap (u64.wrap (xs.getD i 0-0)-c) / 9223372036854775808 = -((xs.getD i 0-ys.getD i 0-c) / 4294967296):=by rw [wu64m,wu64m,hz];omega
    simp only [Int.toNat_natCast,wx,sr63,wu32,w1,w2,ei,lm_snoc] at k
    exact k
  obtain ⟨zs,c',i',q1,q2,q0,q3,q4⟩:=ih (i+1) (acc++[(xs.getD i 0-ys.getD i 0-c) % 4294967296]) (-((xs.getD i 0-ys.getD i 0-c) / 4294967296)) (by omega) (by simp [hl]) (u32_snoc hu (by omega)) (by omega)
  refine ⟨zs,c',i',q1,q2,q0,?_,RunsW.loop step q4⟩
  rw [q3,valL_snoc,hl,drop_val xs i,drop_val ys i,Int.pow_succ]
  have hd:=Int.emod_add_mul_ediv (xs.getD i 0-ys.getD i 0-c) 4294967296
  generalize (xs.getD i 0-ys.getD i 0-c) % 4294967296=m at *
  generalize (xs.getD i 0-ys.getD i 0-c) / 4294967296=d at *
  generalize (4294967296:Int)^i=p at *
  generalize valL (xs.drop (i+1))=X at *
  generalize valL (ys.drop (i+1))=Y at *
  have:xs.getD i 0+4294967296*X-(ys.getD i 0+4294967296*Y)-c=m+4294967296*(d+X-Y):=by omega
  rw [this]
  grind
theorem subMag_run {xs ys:List Int} (hx:U32 xs) (hy:U32 ys) (hl:ys.length≤xs.length) (hv:valL ys≤valL xs) (h1:xs.length≤1048576):∃ zs,U32 zs∧valL zs=valL xs-valL ys∧zs.length=xs.length∧Runs Yir 140 [.sl xs.length (lm xs), .sl ys.length (lm ys)] (.fresh 1 zs.length (lm zs)):=by
 obtain ⟨zs,c',i',q1,q2,q0,q3,q4⟩:=Yloop140 hx hy hl h1 xs.length 0 [] 0 (by omega) rfl (fun x hx=>by cases hx) (by omega)
 simp only [valL,Int.pow_zero,List.drop_zero,Int.one_mul,Int.zero_add,Int.sub_zero] at q3
 have hlt:=valL_lt q1
 rw [q2] at hlt
 have hp:=pow32_pos xs.length
 have hc:c'=0:=by
  generalize (4294967296:Int)^xs.length=p at *
  rcases Int.lt_or_le 0 c' with g | g
  ·have:p*1≤p*c':=Int.mul_le_mul_of_nonneg_left (by omega) (by omega)
   omega
  ·omega
 subst hc
 refine ⟨zs,q1,by simpa using q3,q2,?_⟩
 exact Yrun140 xs ys _ _ _ _ q4
theorem mk1_run {neg:Bool} {xs:List Int} (hu:U32 xs) (hN:xs.length≤1048576):Runs Yir 106 [.bool neg, .sl xs.length (lm xs)] (bigF (rv neg xs)):=make1_run hu hN
theorem rsign_run {neg:Bool} {xs:List Int} (hu:U32 xs) (hN:xs.length≤1048576):Runs Yir 81 [.agg [.bool neg, .sl xs.length (lm xs)]] (.int .i64 (sgnI (rv neg xs))):=by
 have hm:=mag_run hN
 have hz:(trimL xs).length=0↔valL xs=0:=by
  have:=valL_nonneg hu
  rw [trimL_eq hu,limbs_zero_len];omega
 have hv:=valL_nonneg hu
 by_cases h0:valL xs=0
 ·have h:=Yrun81r_1 neg xs (by rw [beq_iff_eq];omega) hm
  have e:sgnI (rv neg xs)=0:=by unfold rv;rw [h0];cases neg <;> rfl
  rw [e];exact h
 ·cases neg with
  | true =>
   have h:=Yrun81r_2 true xs (by rw [beq_eq_false_iff_ne];omega) rfl hm
   have e:sgnI (rv true xs) = -1:=by simp only [rv,if_true,sgnI]; (repeat' split) <;> omega
   rw [e];exact h
  | false =>
   have h:=Yrun81r_3 false xs (by rw [beq_eq_false_iff_ne];omega) rfl hm
   have e:sgnI (rv false xs)=1:=by simp only [rv,Bool.false_eq_true,if_false,sgnI]; (repeat' split) <;> omega
   rw [e];exact h
theorem rv_flip (neg:Bool) (xs:List Int):rv (!neg) xs = -(rv neg xs):=by unfold rv;cases neg <;> simp
theorem rneg_run {neg:Bool} {xs:List Int} (hu:U32 xs) (hN:xs.length≤1048576):Runs Yir 117 [.agg [.bool neg, .sl xs.length (lm xs)]] (bigAV (-(rv neg xs))):=by
 have h:=mk1_run (neg := !neg) hu hN
 rw [rv_flip] at h
 exact Yrun117 neg xs _ h
theorem rtrim_run {neg:Bool} {xs:List Int} (hu:U32 xs) (hN:xs.length≤1048576):Runs Yir 93 [.agg [.bool neg, .sl xs.length (lm xs)]] (bigAV (rv neg xs)):=Yrun93 neg xs _ (mk1_run hu hN)
theorem Yrun105r (na nb:Bool) (xs ys zs:List Int) (v:Int) (n1:Runs Yir 125 [.sl xs.length (lm xs)] (.fresh 1 ((trimL xs).length) (lm (trimL xs)))) (n2:Runs Yir 125 [.sl ys.length (lm ys)] (.fresh 1 ((trimL ys).length) (lm (trimL ys)))) (n3:Runs Yir 141 [.sl ((trimL xs).length) (lm (trimL xs)), .sl ((trimL ys).length) (lm (trimL ys))] (.fresh 1 zs.length (lm zs))) (n4:Runs Yir 106 [.bool (!(na==nb)), .sl zs.length (lm zs)] (bigF v)):Runs Yir 105 [.agg [.bool na, .sl xs.length (lm xs)], .agg [.bool nb, .sl ys.length (lm ys)]] (bigAV v):=Runs.go (fn:=Yi105) TBC_holds rfl 400 rfl [.r (.fresh 1 ((trimL xs).length) (lm (trimL xs))), .r (.fresh 1 ((trimL ys).length) (lm (trimL ys))), .r (.fresh 1 zs.length (lm zs)), .r (bigF v)] (ac n1 (ac n2 (ac n3 (ac n4 a0)))) (by kernel_rfl)
theorem Yrun104_1 (na nb:Bool) (xs ys zs:List Int) (v:Int) (c1:(na==nb)=true) (n1:Runs Yir 125 [.sl xs.length (lm xs)] (.fresh 1 ((trimL xs).length) (lm (trimL xs)))) (n2:Runs Yir 125 [.sl ys.length (lm ys)] (.fresh 1 ((trimL ys).length) (lm (trimL ys)))) (n3:Runs Yir 138 [.sl ((trimL xs).length) (lm (trimL xs)), .sl ((trimL ys).length) (lm (trimL ys))] (.fresh 1 zs.length (lm zs))) (n4:Runs Yir 106 [.bool na, .sl zs.length (lm zs)] (bigF v)):Runs Yir 104 [.agg [.bool na, .sl xs.length (lm xs)], .agg [.bool nb, .sl ys.length (lm ys)]] (bigAV v):=Runs.go (fn:=Yi104) TBC_holds rfl 400 rfl [.r (.fresh 1 ((trimL xs).length) (lm (trimL xs))), .r (.fresh 1 ((trimL ys).length) (lm (trimL ys))), .b true, .r (.fresh 1 zs.length (lm zs)), .r (bigF v)] (ac n1 (ac n2 (ac c1 (ac n3 (ac n4 a0))))) (by kernel_rfl)
theorem Yrun104_2 (na nb:Bool) (xs ys zs:List Int) (v c:Int) (c1:(na==nb)=false) (c2:(decide (c≥0))=true) (n1:Runs Yir 125 [.sl xs.length (lm xs)] (.fresh 1 ((trimL xs).length) (lm (trimL xs)))) (n2:Runs Yir 125 [.sl ys.length (lm ys)] (.fresh 1 ((trimL ys).length) (lm (trimL ys)))) (n3:Runs Yir 139 [.sl ((trimL xs).length) (lm (trimL xs)), .sl ((trimL ys).length) (lm (trimL ys))] (.int .i64 c)) (n4:Runs Yir 140 [.sl ((trimL xs).length) (lm (trimL xs)), .sl ((trimL ys).length) (lm (trimL ys))] (.fresh 1 zs.length (lm zs))) (n5:Runs Yir 106 [.bool na, .sl zs.length (lm zs)] (bigF v)):Runs Yir 104 [.agg [.bool na, .sl xs.length (lm xs)], .agg [.bool nb, .sl ys.length (lm ys)]] (bigAV v):=Runs.go (fn:=Yi104) TBC_holds rfl 400 rfl [.r (.fresh 1 ((trimL xs).length) (lm (trimL xs))), .r (.fresh 1 ((trimL ys).length) (lm (trimL ys))), .b false, .r (.int .i64 c), .b true, .r (.fresh 1 zs.length (lm zs)), .r (bigF v)] (ac n1 (ac n2 (ac c1 (ac n3 (ac c2 (ac n4 (ac n5 a0))))))) (by kernel_rfl)
theorem Yrun104_3 (na nb:Bool) (xs ys zs:List Int) (v c:Int) (c1:(na==nb)=false) (c2:(decide (c≥0))=false) (n1:Runs Yir 125 [.sl xs.length (lm xs)] (.fresh 1 ((trimL xs).length) (lm (trimL xs)))) (n2:Runs Yir 125 [.sl ys.length (lm ys)] (.fresh 1 ((trimL ys).length) (lm (trimL ys)))) (n3:Runs Yir 139 [.sl ((trimL xs).length) (lm (trimL xs)), .sl ((trimL ys).length) (lm (trimL ys))] (.int .i64 c)) (n4:Runs Yir 140 [.sl ((trimL ys).length) (lm (trimL ys)), .sl ((trimL xs).length) (lm (trimL xs))] (.fresh 1 zs.length (lm zs))) (n5:Runs Yir 106 [.bool nb, .sl zs.length (lm zs)] (bigF v)):Runs Yir 104 [.agg [.bool na, .sl xs.length (lm xs)], .agg [.bool nb, .sl ys.length (lm ys)]] (bigAV v):=Runs.go (fn:=Yi104) TBC_holds rfl 400 rfl [.r (.fresh 1 ((trimL xs).length) (lm (trimL xs))), .r (.fresh 1 ((trimL ys).length) (lm (trimL ys))), .b false, .r (.int .i64 c), .b false, .r (.fresh 1 zs.length (lm zs)), .r (bigF v)] (ac n1 (ac n2 (ac c1 (ac n3 (ac c2 (ac n4 (ac n5 a0))))))) (by kernel_rfl)
theorem Yrun118 (na nb:Bool) (xs ys:List Int) (v w:Int) (n1:Runs Yir 117 [.agg [.bool nb, .sl ys.length (lm ys)]] (bigAV w)) (n2:Runs Yir 104 [.agg [.bool na, .sl xs.length (lm xs)],bigAV w] (bigAV v)):Runs Yir 118 [.agg [.bool na, .sl xs.length (lm xs)], .agg [.bool nb, .sl ys.length (lm ys)]] (bigAV v):=Runs.go (fn:=Yi118) TBC_holds rfl 400 rfl [.r (bigAV w), .r (bigAV v)] (ac n1 (ac n2 a0)) (by kernel_rfl)
theorem Yrun79 (neg:Bool) (xs:List Int) (n1:Runs Yir 125 [.sl xs.length (lm xs)] (.fresh 1 ((trimL xs).length) (lm (trimL xs)))):Runs Yir 79 [.agg [.bool neg, .sl xs.length (lm xs)]] (.bool (decide ((((trimL xs).length:Nat):Int)>256))):=Runs.go (fn:=Yi79) TBC_holds rfl 400 rfl [.r (.fresh 1 ((trimL xs).length) (lm (trimL xs)))] (ac n1 a0) (by kernel_rfl)
theorem trim_rv (neg:Bool) (xs:List Int):rv neg (trimL xs)=rv neg xs:=by unfold rv;rw [trimL_val]
theorem trim_u32 {xs:List Int} (h:U32 xs):U32 (trimL xs):=(trimL_canon h).1
theorem rv_mul (na nb:Bool) (xs ys zs:List Int) (h:valL zs=valL xs*valL ys):rv (!(na==nb)) zs=rv na xs*rv nb ys:=by
 unfold rv
 rw [h]
 generalize valL xs=X
 generalize valL ys=Y
 cases na <;> cases nb <;> simp <;> grind
theorem rtimes_run {na nb:Bool} {xs ys:List Int} (hx:U32 xs) (hy:U32 ys) (hN:xs.length+ys.length≤1048576):Runs Yir 105 [.agg [.bool na, .sl xs.length (lm xs)], .agg [.bool nb, .sl ys.length (lm ys)]] (bigAV (rv na xs*rv nb ys)):=by
 have t1:=trim_len xs
 have t2:=trim_len ys
 obtain ⟨zs,z1,z2,z3,z4⟩:=mulMag_run (trim_u32 hx) (trim_u32 hy) (by omega)
 have hk:=mk1_run (neg := !(na==nb)) z2 (by omega)
 rw [rv_mul na nb (trimL xs) (trimL ys) zs z3,trim_rv,trim_rv] at hk
 exact Yrun105r na nb xs ys zs _ (mag_run (by omega)) (mag_run (by omega)) z4 hk
theorem rplus_run {na nb:Bool} {xs ys:List Int} (hx:U32 xs) (hy:U32 ys) (h1:xs.length<1048576) (h2:ys.length<1048576):Runs Yir 104 [.agg [.bool na, .sl xs.length (lm xs)], .agg [.bool nb, .sl ys.length (lm ys)]] (bigAV (rv na xs+rv nb ys)):=by
 have t1:=trim_len xs
 have t2:=trim_len ys
 have c1:=trimL_canon hx
 have c2:=trimL_canon hy
 have m1:=mag_run (xs:=xs) (by omega)
 have m2:=mag_run (xs:=ys) (by omega)
 have hcmp:=cmpMag_run c1 c2 (by omega)
 by_cases hn:na=nb
 ·subst hn
  obtain ⟨zs,z1,z2,z3,z4⟩:=addMag_run c1.1 c2.1 (by omega) (by omega)
  have hk:=mk1_run (neg:=na) z1 (by omega)
  have e:rv na zs=rv na xs+rv na ys:=by
   unfold rv;rw [z2,trimL_val,trimL_val];cases na <;> simp;omega
  rw [e] at hk
  exact Yrun104_1 na na xs ys zs _ (by simp) m1 m2 z4 hk
 ·have hb:nb = !na:=by cases na <;> cases nb <;> simp at hn ⊢
  by_cases hc:cmpI (valL (trimL xs)) (valL (trimL ys))≥0
  ·have hle:valL (trimL ys)≤valL (trimL xs):=by unfold cmpI at hc;split at hc <;> (try split at hc) <;> omega
   have hlen:(trimL ys).length≤(trimL xs).length:=canon_len c2 (Int.lt_of_le_of_lt hle (valL_lt c1.1))
   obtain ⟨zs,z1,z2,z3,z4⟩:=subMag_run c1.1 c2.1 hlen hle (by omega)
   have hk:=mk1_run (neg:=na) z1 (by omega)
   have e:rv na zs=rv na xs+rv nb ys:=by
    unfold rv;rw [z2,trimL_val,trimL_val,hb];cases na <;> simp <;> omega
   rw [e] at hk
   exact Yrun104_2 na nb xs ys zs _ _ (by rw [hb];cases na <;> rfl) (by simpa using hc) m1 m2 hcmp z4 hk
  ·have hle:valL (trimL xs)≤valL (trimL ys):=by unfold cmpI at hc;split at hc <;> (try split at hc) <;> omega
   have hlen:(trimL xs).length≤(trimL ys).length:=canon_len c1 (Int.lt_of_le_of_lt hle (valL_lt c2.1))
   obtain ⟨zs,z1,z2,z3,z4⟩:=subMag_run c2.1 c1.1 hlen hle (by omega)
   have hk:=mk1_run (neg:=nb) z1 (by omega)
   have e:rv nb zs=rv na xs+rv nb ys:=by
    unfold rv;rw [z2,trimL_val,trimL_val,hb];cases na <;> simp <;> omega
   rw [e] at hk
   exact Yrun104_3 na nb xs ys zs _ _ (by rw [hb];cases na <;> rfl) (by simpa using hc) m1 m2 hcmp z4 hk
theorem rminus_run {na nb:Bool} {xs ys:List Int} (hx:U32 xs) (hy:U32 ys) (h1:xs.length<1048576) (h2:ys.length<1048576):Runs Yir 118 [.agg [.bool na, .sl xs.length (lm xs)], .agg [.bool nb, .sl ys.length (lm ys)]] (bigAV (rv na xs-rv nb ys)):=by
 have hn:=rneg_run (neg:=nb) hy (by omega)
 have hl:(limbs (-(rv nb ys)).natAbs).length<1048576:=by rw [Int.natAbs_neg];exact Nat.lt_of_le_of_lt (rv_len hy) h2
 have h:=rplus_run (na:=na) (nb:=decide (-(rv nb ys)<0)) hx (big_u32 (-(rv nb ys)).natAbs) h1 hl
 rw [rv_big] at h
 exact Yrun118 na nb xs ys _ _ hn h
theorem rlarge_run {neg:Bool} {xs:List Int} (hN:xs.length≤1048576):Runs Yir 79 [.agg [.bool neg, .sl xs.length (lm xs)]] (.bool (decide (256<(trimL xs).length))):=by
 have h:=Yrun79 neg xs (mag_run hN)
 have e:decide ((((trimL xs).length:Nat):Int)>256)=decide (256<(trimL xs).length):=by rw [decide_eq_decide];omega
 rw [e] at h
 exact h
def TBD:Table:=TBC
theorem TBD_holds:THolds Yir TBD:=TBC_holds
end Go.Proofs.Ythnnfemologhfaa

namespace Go.Proofs.Ythnnfemologhfaa
open Go.IntKind (i64 u64 u32)
open Go.Ai
theorem or64 {q c:Int} {s:Nat} (hq:0≤q) (hs:q*2^s<18446744073709551616) (hs':s≤64) (hc:0≤c∧c<2^s) :
  u64.wrap ((BitVec.ofInt (IntKind.bits .u64) (q*2^s) ||| BitVec.ofInt (IntKind.bits .u64) c).toNat)=q*2^s+c:=by
 obtain ⟨a,rfl⟩:∃ a:Nat,q=a:=⟨q.toNat,by omega⟩
 obtain ⟨b,rfl⟩:∃ b:Nat,c=b:=⟨c.toNat,by omega⟩
 have e1:(a:Int)*2^s=((a*2^s:Nat):Int):=by rw [Int.natCast_mul,Int.natCast_pow];rfl
 have hb:b<2^s:=by
  have:(b:Int)<((2^s:Nat):Int):=by rw [Int.natCast_pow];exact hc.2
  omega
 have h64:2^s≤2^64:=Nat.pow_le_pow_right (by decide) hs'
 have e64:2^64=18446744073709551616:=by decide
 rw [e1] at hs ⊢
 show u64.wrap ((BitVec.ofInt 64 ((a*2^s:Nat):Int) ||| BitVec.ofInt 64 (b:Int)).toNat:Int)=_
 rw [BitVec.toNat_or,BitVec.ofInt_natCast,BitVec.ofInt_natCast,BitVec.toNat_ofNat,BitVec.toNat_ofNat,Nat.mod_eq_of_lt (by omega),Nat.mod_eq_of_lt (by omega),Nat.mul_comm a,← Nat.two_pow_add_eq_or_of_lt hb,Nat.mul_comm (2^s) a,wu64m]
 have hsum:a*2^s+b<18446744073709551616:=by
  have hd:a*2^s+2^s≤2^64:=by
   have hk:2^64=2^(64-s)*2^s:=by rw [← Nat.pow_add];congr 1;omega
   have h1:a<2^(64-s):=by
    rcases Nat.lt_or_ge a (2^(64-s)) with g | g
    ·exact g
    ·have:=Nat.mul_le_mul_right (2^s) g
     omega
   have h2:=Nat.mul_le_mul_right (2^s) (show a+1≤2^(64-s) by omega)
   rw [Nat.add_mul,Nat.one_mul] at h2
   omega
  omega
 omega
theorem pow2_pos (n:Nat):(0:Int)<2^n:=Int.pow_pos (by decide)
theorem pow2_le {a b:Nat} (h:a≤b):(2:Int)^a≤2^b:=by
 have h1:2^a≤2^b:=Nat.pow_le_pow_right (by decide) h
 have e:∀ n:Nat,(2:Int)^n=((2^n:Nat):Int):=fun n=>by rw [Int.natCast_pow];rfl
 rw [e,e]
 omega
theorem pow32_two (n:Nat):(4294967296:Int)^n=2^(32*n):=by
 rw [Int.pow_mul];rfl
theorem pow2_split (n:Nat):(2:Int)^n=4294967296^(n / 32)*2^(n % 32):=by
 rw [pow32_two,← Int.pow_add,Nat.div_add_mod]
end Go.Proofs.Ythnnfemologhfaa

namespace Go.Proofs.Ythnnfemologhfaa
open Go.IntKind (i64 u64 u32)
open Go.Ai
set_option maxRecDepth 100000
def Ys126 (neg:Bool) (xs:List Int) (n:Nat) (cs:List AV) (c:Int) (s:Int) (ms:List Int) (i:Int):State:=(dds 2 (.box [.bool neg, .sl xs.length (lm xs)]::(dds 1 (.box [.bool false, .sl 0 []]::(.own 1 n cs::(.val (.int .u32 c)::(.val (.int .u64 s)::(.val (.sl ms.length (lm ms))::(.val (.int .i64 i)::(dds 41 []))))))))))
theorem Yk126_1 (neg:Bool) (xs:List Int) (n:Nat) (cs:List AV) (c:Int) (s:Int) (ms:List Int) (i:Int)  (c1:(decide (i<(ms.length:Int)))=true) (n1:0≤i∧i<(ms.length:Int)) (n2:¬ s<0) (n3:n+1≤1048576):RunsW Yir Yc126 (Ys126 neg xs n cs c s ms i) .norm (Ys126 neg xs (n+1) (cs++([.int .u32 (u32.wrap (u64.wrap ((BitVec.ofInt (IntKind.bits .u64) (u64.wrap ((u64.wrap (ms.getD (Int.toNat i) 0))*2^(min (Int.toNat s) (IntKind.bits .u64)))) ||| BitVec.ofInt (IntKind.bits .u64) (u64.wrap c)).toNat)))]:List AV)) (u32.wrap (Int.fdiv (u64.wrap ((BitVec.ofInt (IntKind.bits .u64) (u64.wrap ((u64.wrap (ms.getD (Int.toNat i) 0))*2^(min (Int.toNat s) (IntKind.bits .u64)))) ||| BitVec.ofInt (IntKind.bits .u64) (u64.wrap c)).toNat)) (2^(min (Int.toNat 32) (IntKind.bits .u64))))) s ms (i64.wrap (i+1))):=(RunsW.go TBD_holds 400 [.b true, .v (.int .u32 (ms.getD (Int.toNat i) 0))] [2,4,5,6,7,8,9] (ac c1 (ac n1 (ac (take_limI n1) (ac n2 (ac (show List.length ([.int .u32 (u32.wrap (u64.wrap ((BitVec.ofInt (IntKind.bits .u64) (u64.wrap ((u64.wrap (ms.getD (Int.toNat i) 0))*2^(min (Int.toNat s) (IntKind.bits .u64)))) ||| BitVec.ofInt (IntKind.bits .u64) (u64.wrap c)).toNat)))]:List AV)=1*1 from rfl) (ac n3 (ac (show ¬ (32:Int)<0 from (by decide)) a0))))))) (by kernel_rfl))
theorem Yk126_2 (neg:Bool) (xs:List Int) (n:Nat) (cs:List AV) (c:Int) (s:Int) (ms:List Int) (i:Int)  (c1:(decide (i<(ms.length:Int)))=false):RunsW Yir Yc126 (Ys126 neg xs n cs c s ms i) (.exit 0) (Ys126 neg xs n cs c s ms i):=(RunsW.go TBD_holds 400 [.b false] [2,4,5,6,7,8,9] (ac c1 a0) (by kernel_rfl))
theorem Yrun126 (neg:Bool) (xs:List Int) (sh:Int) (n:Nat) (cs:List AV) (c i v:Int) (n1:0≤(i64.wrap (Int.tdiv sh 32))∧(i64.wrap (Int.tdiv sh 32))≤1048576) (n2:Runs Yir 125 [.sl xs.length (lm xs)] (.fresh 1 ((trimL xs).length) (lm (trimL xs)))) (hl3:RunsW Yir (.loop Yc126) (Ys126 neg xs (Int.toNat (i64.wrap (Int.tdiv sh 32))) (replA [.int .u32 0] (Int.toNat (i64.wrap (Int.tdiv sh 32)))) 0 (u64.wrap (Int.tmod sh 32)) (trimL xs) 0) (.exit 0) (Ys126 neg xs n cs c (u64.wrap (Int.tmod sh 32)) (trimL xs) i)) (n4:n+1≤1048576) (n5:Runs Yir 106 [.bool neg, .sl (n+1) (cs++([.int .u32 c]:List AV))] (bigF v)):Runs Yir 126 [.agg [.bool neg, .sl xs.length (lm xs)], .int .i64 sh] (bigF v):=Runs.of_bodyW (fn:=Yi126) (s:=(dds 4 (.bxl 50::(dds 45 (.agn (decide (v<0)) 1 ((limbs (Int.natAbs v)).length) (lm (limbs (Int.natAbs v)))::[]))))) (ex := .ret) rfl rfl (RunsW.seq (RunsW.go (t:=(.val (.agg [.bool neg, .sl xs.length (lm xs)])::(vi sh::(.box [.bool neg, .sl xs.length (lm xs)]::(dds 1 (.box [.bool false, .sl 0 []]::(dds 46 []))))))) (ex := .norm) TBD_holds 400 [] [0,1,2,4] a0 (by kernel_rfl)) (RunsW.seq (RunsW.go (t:=(.val (.agg [.bool neg, .sl xs.length (lm xs)])::(vi sh::(.box [.bool neg, .sl xs.length (lm xs)]::(dds 1 (.box [.bool false, .sl 0 []]::(.own 1 (Int.toNat (i64.wrap (Int.tdiv sh 32))) (replA [.int .u32 0] (Int.toNat (i64.wrap (Int.tdiv sh 32))))::(dds 45 [])))))))) (ex := .norm) TBD_holds 400 [] [0,1,2,4,5] (ac (show ¬ (32:Int)=0 from (by decide)) (ac n1 a0)) (by kernel_rfl)) (RunsW.seq (RunsW.go (t:=(.val (.agg [.bool neg, .sl xs.length (lm xs)])::(vi sh::(.box [.bool neg, .sl xs.length (lm xs)]::(dds 1 (.box [.bool false, .sl 0 []]::(.own 1 (Int.toNat (i64.wrap (Int.tdiv sh 32))) (replA [.int .u32 0] (Int.toNat (i64.wrap (Int.tdiv sh 32))))::(.val (.int .u32 0)::(dds 44 []))))))))) (ex := .norm) TBD_holds 400 [] [0,1,2,4,5,6] a0 (by kernel_rfl)) (RunsW.seq (RunsW.go (t:=(.val (.agg [.bool neg, .sl xs.length (lm xs)])::(vi sh::(.box [.bool neg, .sl xs.length (lm xs)]::(dds 1 (.box [.bool false, .sl 0 []]::(.own 1 (Int.toNat (i64.wrap (Int.tdiv sh 32))) (replA [.int .u32 0] (Int.toNat (i64.wrap (Int.tdiv sh 32))))::(.val (.int .u32 0)::(.val (.int .u64 (u64.wrap (Int.tmod sh 32)))::(dds 43 [])))))))))) (ex := .norm) TBD_holds 400 [] [0,1,2,4,5,6,7] (ac (show ¬ (32:Int)=0 from (by decide)) a0) (by kernel_rfl)) (RunsW.seq (RunsW.go (t:=(.val (.agg [.bool neg, .sl xs.length (lm xs)])::(vi sh::(.box [.bool neg, .sl xs.length (lm xs)]::(dds 1 (.box [.bool false, .sl 0 []]::(.own 1 (Int.toNat (i64.wrap (Int.tdiv sh 32))) (replA [.int .u32 0] (Int.toNat (i64.wrap (Int.tdiv sh 32))))::(.val (.int .u32 0)::(.val (.int .u64 (u64.wrap (Int.tmod sh 32)))::(.val (.sl ((trimL xs).length) (lm (trimL xs)))::(dds 42 []))))))))))) (ex := .norm) TBD_holds 400 [.r (.fresh 1 ((trimL xs).length) (lm (trimL xs)))] [0,1,2,4,5,6,7,8] (ac n2 a0) (by kernel_rfl)) (RunsW.seq (RunsW.seq (RunsW.go TBD_holds 400 [] [2,4,5,6,7,8,9] a0 (by kernel_rfl)) (RunsW.block hl3)) (RunsW.go TBD_holds 400 [.r (bigF v)] [4,50] (ac (show List.length ([.int .u32 c]:List AV)=1*1 from rfl) (ac n4 (ac n5 a0))) (by kernel_rfl)))))))) (by intro i e;cases e) rfl
theorem shift_step {x c:Int} {s:Nat} (hx:0≤x∧x<4294967296) (hs:s<32) (hc:0≤c∧c<2^s) :
  u64.wrap ((BitVec.ofInt (IntKind.bits .u64) (u64.wrap ((u64.wrap x)*2^(min (Int.toNat (s:Int)) (IntKind.bits .u64)))) ||| BitVec.ofInt (IntKind.bits .u64) (u64.wrap c)).toNat)=x*2^s+c
  ∧ 0≤(x*2^s+c) / 4294967296∧(x*2^s+c) / 4294967296<2^s∧(2:Int)^s≤2147483648:=by
 have hp:=pow2_pos s
 have hp2:(2:Int)^s≤2147483648:=pow2_le (show s≤31 by omega)
 have hm:x*2^s≤4294967295*2^s:=Int.mul_le_mul_of_nonneg_right (by omega) (by omega)
 have hm0:0≤x*2^s:=Int.mul_nonneg hx.1 (by omega)
 have hmin:min (Int.toNat (s:Int)) (IntKind.bits .u64)=s:=by
  rw [Int.toNat_natCast]
  show min s 64=s
  omega
 have w1:u64.wrap x=x:=by rw [wu64m];omega
 have w2:u64.wrap (x*2^s)=x*2^s:=by rw [wu64m];omega
 have w3:u64.wrap c=c:=by rw [wu64m];omega
 refine ⟨?_,by omega,by omega,hp2⟩
 rw [hmin,w1,w2,w3]
 exact or64 hx.1 (by omega) (by omega) hc
theorem Yloop126 {neg:Bool} {xs ms pre:List Int} (hu:U32 ms) {s:Nat} (hs:s<32) (hN:pre.length+ms.length≤1048576):∀ (r i:Nat) (acc:List Int) (c:Int),i+r=ms.length→acc.length=i→U32 acc→0≤c∧c<2^s →
  ∃ (zs:List Int) (c':Int),U32 zs∧zs.length=ms.length∧(0≤c'∧c'<2^s)∧valL zs+4294967296^ms.length*c'=valL acc+4294967296^i*(c+2^s*valL (ms.drop i)) ∧
   RunsW Yir (.loop Yc126) (Ys126 neg xs (pre.length+i) (lm (pre++acc)) c (s:Nat) ms (i:Nat)) (.exit 0) (Ys126 neg xs (pre.length+ms.length) (lm (pre++zs)) c' (s:Nat) ms (ms.length:Nat)):=by
 intro r
 induction r with
 | zero =>
  intro i acc c hi hl hacc hc
  have e1:valL (ms.drop i)=0:=drop_end (by omega)
  have hi':i=ms.length:=by omega
  refine ⟨acc,c,hacc,by omega,hc,by rw [e1,hi'];simp,?_⟩
  rw [hi']
  exact RunsW.loop_out (Yk126_2 neg xs _ _ c (s:Nat) ms (ms.length:Nat) (by simp)) (by intro e;cases e)
 | succ r ih =>
  intro i acc c hi hl hacc hc
  have bm:=getD_u32 hu i
  obtain ⟨w1,w2,w3,w4⟩:=shift_step bm hs hc
  have ei:i64.wrap ((i:Int)+1)=((i+1:Nat):Int):=by rw [w64 (by omega) (by omega)];omega
  have k:=Yk126_1 neg xs (pre.length+i) (lm (pre++acc)) c (s:Nat) ms (i:Nat) (by simp;omega) (by omega) (by omega) (by omega)
  have wd:u32.wrap ((ms.getD i 0*2^s+c) / 4294967296)=(ms.getD i 0*2^s+c) / 4294967296:=by rw [wu32];omega
  simp only [Int.toNat_natCast i,w1,sr32,wd,wu32 (ms.getD i 0*2^s+c),ei,lm_snoc,List.append_assoc] at k
  obtain ⟨zs,c',q1,q2,q3,q4,q5⟩:=ih (i+1) (acc++[(ms.getD i 0*2^s+c) % 4294967296]) ((ms.getD i 0*2^s+c) / 4294967296) (by omega) (by simp [hl]) (u32_snoc hacc (by omega)) ⟨w2,w3⟩
  refine ⟨zs,c',q1,q2,q3,?_,RunsW.loop k q5⟩
  rw [q4,valL_snoc,hl,drop_val ms i,Int.pow_succ]
  have hd:=Int.emod_add_mul_ediv (ms.getD i 0*2^s+c) 4294967296
  generalize (ms.getD i 0*2^s+c) % 4294967296=m at *
  generalize (ms.getD i 0*2^s+c) / 4294967296=d at *
  generalize (4294967296:Int)^i=p at *
  generalize valL (ms.drop (i+1))=X at *
  generalize (2:Int)^s=T at *
  generalize ms.getD i 0=y at *
  have:c+T*(y+4294967296*X)=m+4294967296*(d+T*X):=by
   have:c+T*(y+4294967296*X)=(y*T+c)+4294967296*(T*X):=by grind
   omega
  rw [this]
  grind
theorem rv_scale {neg:Bool} {xs ys:List Int} {t:Int} (h:valL ys=t*valL xs):rv neg ys=rv neg xs*t:=by
 unfold rv
 rw [h]
 generalize valL xs=X
 cases neg <;> simp <;> grind
theorem rup_run {neg:Bool} {xs:List Int} (hu:U32 xs) (n:Nat) (hN:n / 32+xs.length+1≤1048576):Runs Yir 126 [.agg [.bool neg, .sl xs.length (lm xs)], .int .i64 (n:Nat)] (bigF (rv neg xs*2^n)):=by
 have t1:=trim_len xs
 have e1:i64.wrap (Int.tdiv (n:Int) 32)=((n / 32:Nat):Int):=by
  rw [Int.tdiv_eq_ediv_of_nonneg (by omega),w64 (by omega) (by omega)];omega
 have e2:u64.wrap (Int.tmod (n:Int) 32)=((n % 32:Nat):Int):=by
  rw [Int.tmod_eq_emod_of_nonneg (by omega),wu64m];omega
 obtain ⟨zs,c',q1,q2,q3,q4,q5⟩:=Yloop126 (neg:=neg) (xs:=xs) (pre:=List.replicate (n / 32) 0) (trim_u32 hu) (s:=n % 32) (by omega) (by simp;omega) (trimL xs).length 0 [] 0 (by omega) rfl (fun x hx=>by cases hx) ⟨by omega,pow2_pos _⟩
 have w4:(2:Int)^(n % 32)≤2147483648:=pow2_le (show n % 32≤31 by omega)
 simp only [List.length_replicate,List.append_nil,Nat.add_zero,valL,Int.pow_zero,List.drop_zero,Int.one_mul,Int.zero_add] at q4 q5
 have huz:U32 (List.replicate (n / 32) 0++zs++[c']):=by
  refine u32_snoc ?_ (by omega)
  intro x hx
  rcases List.mem_append.1 hx with g | g
  ·exact u32_zeros _ x g
  ·exact q1 x g
 have hlen:(List.replicate (n / 32) 0++zs++[c']).length=n / 32+(trimL xs).length+1:=by simp [q2];omega
 have hk:=mk1_run (neg:=neg) huz (by omega)
 have hval:valL (List.replicate (n / 32) 0++zs++[c'])=2^n*valL xs:=by
  rw [valL_snoc,valL_append,valL_zeros,pow2_split n,List.length_append,List.length_replicate,Int.pow_add,q2]
  rw [trimL_val] at q4
  generalize (4294967296:Int)^(n / 32)=p at *
  generalize (4294967296:Int)^(trimL xs).length=q at *
  generalize (2:Int)^(n % 32)=T at *
  generalize valL xs=X at *
  generalize valL zs=Z at *
  grind
 rw [rv_scale hval,hlen] at hk
 refine Yrun126 neg xs (n:Nat) (n / 32+(trimL xs).length) (lm (List.replicate (n / 32) 0++zs)) c' ((trimL xs).length:Nat) _ (by rw [e1];omega) (mag_run (by omega)) (by rw [e1,e2,Int.toNat_natCast,repl_lim];exact q5) (by omega) (by rw [lm_snoc];exact hk)
def TBE:Table:=TBD
theorem TBE_holds:THolds Yir TBE:=TBD_holds
end Go.Proofs.Ythnnfemologhfaa
