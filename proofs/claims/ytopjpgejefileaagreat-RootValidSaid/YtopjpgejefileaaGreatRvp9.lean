/- Texts of the proof of RootValid, packed by pack.py: part 9 of 21. -/
import Derived.Test.YtopjpgejefileaaGreatRvp8
namespace Go.Proofs.YtopjpgejefileaaGreat
open Go.IntKind (i64 u64 u32)
open Go.Ai
set_option maxRecDepth 100000
def Bl (la:Nat) (xa:List AV) (lb:Nat) (bs:List AV) (n:Nat) (cs:List AV) (i:Int):Zk:=(.val (.sl la xa)::(.val (.sl lb bs)::(dds 2 (.own 1 0 []::(.own 1 n cs::(.val (.int .i64 i)::(dds 59 [])))))))
def Bn (la:Nat) (xa:List AV) (lb:Nat) (bs:List AV) (n:Nat) (cs:List AV) (i c k:Int):Zk:=(.val (.sl la xa)::(.val (.sl lb bs)::(dds 2 (.own 1 0 []::(.own 1 n cs::(.val (.int .i64 i)::(.val (.int .u64 c)::(.val (.int .i64 k)::(dds 57 [])))))))))
theorem Zqw (la:Nat) (xa:List AV) (lb:Nat) (bs:List AV) (n:Nat) (cs ds:List AV) (i c k x y z:Int) (c1:(decide (k<(lb:Int)))=true) (n1:0<=(i64.wrap (i+k))/\(i64.wrap (i+k))<(n:Int)) (n2:Qn cs (Int.toNat (i64.wrap (i+k))*1) 1 true=some (.int .u32 z)) (n3:0<=i/\i<(la:Int)) (n4:Qn (List.drop (Int.toNat i*1) xa) 0 1 true=some (.int .u32 x)) (n5:0<=k/\k<(lb:Int)) (n6:Qn (List.drop (Int.toNat k*1) bs) 0 1 true=some (.int .u32 y)) (n7:0<=(i64.wrap (i+k))/\(i64.wrap (i+k))<(n:Int)) (n8:X9 cs (Int.toNat (i64.wrap (i+k))*1) [.int .u32 (u32.wrap (u64.wrap (c+(u64.wrap ((u64.wrap z)+(u64.wrap ((u64.wrap x)*(u64.wrap y))))))))]=some ds):Za Yir R6 (Bn la xa lb bs n cs i c k) .norm (Bn la xa lb bs n ds i (Int.fdiv (u64.wrap (c+(u64.wrap ((u64.wrap z)+(u64.wrap ((u64.wrap x)*(u64.wrap y))))))) (2^(min (Int.toNat 32) (IntKind.bits .u64)))) (i64.wrap (k+1))):=Za.go Xh 300 [.b true,.v (.int .u32 z),.v (.int .u32 x),.v (.int .u32 y),.l ds] [0,1,4,5,6,7,8] (ac c1 (ac n1 (ac n2 (ac n3 (ac n4 (ac n5 (ac n6 (ac n7 (ac n8 (ac (show ¬ (32:Int)<0 from (by decide)) a0)))))))))) (by kernel_rfl)
theorem Zqv (la:Nat) (xa:List AV) (lb:Nat) (bs:List AV) (n:Nat) (cs:List AV) (i c k:Int) (c1:(decide (k<(lb:Int)))=false):Za Yir R6 (Bn la xa lb bs n cs i c k) (.exit 2) (Bn la xa lb bs n cs i c k):=Za.go Xh 300 [.b false] [0,1,4,5,6,7,8] (ac c1 a0) (by kernel_rfl)
theorem Zkb (la:Nat) (xa:List AV) (lb:Nat) (bs:List AV) (n:Nat) (cs:List AV) (i:Int) (h:(decide (i<(la:Int)))=false):Za Yir R4 (Bl la xa lb bs n cs i) (.exit 0) (Bl la xa lb bs n cs i):=Za.go Xh 300 [.b false] [0,1,4,5,6] (ac (show (decide (i<(la:Int)))=false from h) a0) (by kernel_rfl)
theorem Zem (la:Nat) (xa:List AV) (lb:Nat) (bs:List AV) (n:Nat) (cs ds es:List AV) (i c k:Int) (h:(decide (i<(la:Int)))=true) (hl:Za Yir (.loop R6) (Bn la xa lb bs n cs i 0 0) (.exit 2) (Bn la xa lb bs n ds i c k)) (hix:0<=i64.wrap (i+(lb:Int))/\i64.wrap (i+(lb:Int))<(n:Int)) (hst:X9 ds (Int.toNat (i64.wrap (i+(lb:Int)))*1) [.int .u32 (u32.wrap c)]=some es):Za Yir R4 (Bl la xa lb bs n cs i) .norm (Bl la xa lb bs n es (i64.wrap (i+1))):=(Za.seq (Za.go (t:=(.val (.sl la xa)::(.val (.sl lb bs)::(dds 2 (.own 1 0 []::(.own 1 n cs::(vi i::(dds 8 (vi i::(.val (.sl la xa)::(vi (la:Int)::(.val (.bool (decide (i<(la:Int))))::(dds 47 []))))))))))))) Xh 300 [.b true] [0,1,4,5,6,15,16,17,18] (ac (show (decide (i<(la:Int)))=true from h) a0)) (Za.seq (Za.block_norm (Za.seq (Za.go (t:=(.val (.sl la xa)::(.val (.sl lb bs)::(dds 2 (.own 1 0 []::(.own 1 n cs::(vi i::(.val (.int .u64 0)::(dds 7 (vi i::(.val (.sl la xa)::(vi (la:Int)::(.val (.bool (decide (i<(la:Int))))::(dds 47 [])))))))))))))) Xh 300 [] [0,1,4,5,6,7,15,16,17,18] a0) (Za.seq (Za.seq (Za.go (t:=(.val (.sl la xa)::(.val (.sl lb bs)::(dds 2 (.own 1 0 []::(.own 1 n cs::(vi i::(.val (.int .u64 0)::(vi 0::(dds 57 [])))))))))) Xh 300 [] [0,1,4,5,6,7,8] a0) (Za.block hl)) (Za.go (t:=(.val (.sl la xa)::(.val (.sl lb bs)::(dds 2 (.own 1 0 []::(.own 1 n es::(vi i::(.val (.int .u64 c)::(vi k::(dds 48 (.dup 5::(vi i::(.val (.sl lb bs)::(vi (lb:Int)::(vi (i64.wrap (i+(lb:Int)))::(.val (.int .u64 c)::(.val (.int .u32 (u32.wrap c))::(.ptr 5 (Int.toNat (i64.wrap (i+(lb:Int)))*1)::(dds 1 []))))))))))))))))))) Xh 300 [.l es] [0,1,4,5,6,7,8,57,58,59,60,61,62,63,64] (ac (show 0<=(i64.wrap (i+(lb:Int)))/\(i64.wrap (i+(lb:Int)))<(n:Int) from hix) (ac (show X9 ds (Int.toNat (i64.wrap (i+(lb:Int)))*1) [.int .u32 (u32.wrap c)]=some es from hst) a0)))))) (Za.go (t:=(.val (.sl la xa)::(.val (.sl lb bs)::(dds 2 (.own 1 0 []::(.own 1 n es::(vi (i64.wrap (i+1))::(dds 59 [])))))))) Xh 300 [] [0,1,4,5,6] a0)))
def H8 (a:Int) (bs:List Int) (i:Nat):Nat->Nat->List Int->Int->List Int × Int
 | 0,_,out,c=>(out,c)
 | r+1,k,out,c=>H8 a bs i r (k+1) (out.set (i+k) ((c+(out.getD (i+k) 0+a*bs.getD k 0)) % 4294967296)) ((c+(out.getD (i+k) 0+a*bs.getD k 0)) / 4294967296)
theorem Si {a b c o:Int} (ha:0<=a/\a<4294967296) (hb:0<=b/\b<4294967296) (hc:0<=c/\c<4294967296) (ho:0<=o/\o<4294967296) :
  0<=a*b/\a*b<=18446744065119617025/\0<=c+(o+a*b)/\c+(o+a*b)<18446744073709551616:=by
 have h1:=Int.mul_nonneg ha.1 hb.1;have h2:a*b<=4294967295*4294967295:=Int.mul_le_mul (by omega) (by omega) hb.1 (by omega);omega
theorem Gx {xs:List Int} {i j:Nat} {v:Int} (h:i ≠ j):(xs.set i v).getD j 0=xs.getD j 0:=by
 simp only[List.getD_eq_getElem?_getD,List.getElem?_set_ne h]
theorem Zb9 {a:Int} {bs:List Int} {i:Nat} (ha:0<=a/\a<4294967296) (hb:U32 bs):∀ (r k:Nat) (out:List Int) (c:Int),r+k=bs.length->i+bs.length<=out.length->U32 out->0<=c/\c<4294967296 ->
  (H8 a bs i r k out c).1.length=out.length/\U32 (H8 a bs i r k out c).1/\(0<=(H8 a bs i r k out c).2/\(H8 a bs i r k out c).2<4294967296) /\
  Zj (H8 a bs i r k out c).1+4294967296^(i+bs.length)*(H8 a bs i r k out c).2=Zj out+4294967296^(i+k)*(c+a*Zj (bs.drop k)) /\
  ∀ j,i+bs.length<=j->(H8 a bs i r k out c).1.getD j 0=out.getD j 0:=by
 intro r;induction r with
 | zero =>
  intro k out c hk _ hu hc;have hk':k=bs.length:=by omega
  subst hk';refine⟨rfl,hu,hc,?_,fun _ _=>rfl⟩;simp[H8,Zj]
 | succ r ih =>
  intro k out c hk hl hu hc;have hbk:=Zt hb k;have hok:=Zt hu (i+k);obtain⟨w1,w2,w3,w4⟩:=Si ha hbk hc hok;have hlt:i+k<out.length:=by omega
  simp only[H8];generalize hW:c+(out.getD (i+k) 0+a*bs.getD k 0)=W at *
  have hm:0<=W % 4294967296/\W % 4294967296<4294967296:=by omega
  obtain⟨g1,g2,g3,g4,g5⟩:=ih (k+1) (out.set (i+k) (W % 4294967296)) (W / 4294967296) (by omega) (by simpa using hl) (Q4 hu hm) (by omega);refine⟨by simpa using g1,g2,g3,?_,fun j hj => ?_⟩
  ·rw[g4,Jy out (i+k) _ hlt];have hd:Zj (bs.drop k)=bs.getD k 0+4294967296*Zj (bs.drop (k+1)):=by
    rw[List.drop_eq_getElem_cons (show k<bs.length by omega)];simp[Zj,List.getD_eq_getElem?_getD,List.getElem?_eq_getElem (show k<bs.length by omega)]
   rw[hd];have hp:(4294967296:Int)^(i+(k+1))=4294967296^(i+k)*4294967296:=by rw[<- Nat.add_assoc,Int.pow_succ]
   rw[hp];generalize (4294967296:Int)^(i+k)=p at *
   generalize Zj (bs.drop (k+1))=V at *
   have e1:W=4294967296*(W / 4294967296)+W % 4294967296:=by omega
   have e2:c=W-out.getD (i+k) 0-a*bs.getD k 0:=by omega
   rw[e2];generalize W / 4294967296=q at *
   generalize W % 4294967296=m at *
   generalize out.getD (i+k) 0=o at *
   generalize bs.getD k 0=b at *
   subst e1;grind
  ·rw[g5 j hj,Gx (by omega)]
theorem Zjw (xa bs:List Int) (ha:U32 xa) (hb:U32 bs) (n i:Nat) (hn:n<=1048576) (hi:i<xa.length) (hib:i+bs.length<=n):∀ (r k:Nat) (out:List Int) (c:Int),r+k=bs.length->out.length=n->U32 out->0<=c/\c<4294967296 ->
  Za Yir (.loop R6) (Bn xa.length (lm xa) bs.length (lm bs) n (lm out) (i:Int) c (k:Int)) (.exit 2)
   (Bn xa.length (lm xa) bs.length (lm bs) n (lm (H8 (xa.getD i 0) bs i r k out c).1) (i:Int) (H8 (xa.getD i 0) bs i r k out c).2 (bs.length:Int)):=by
 intro r;induction r with
 | zero =>
  intro k out c hk _ _ _;have hk':k=bs.length:=by omega
  subst hk';exact Za.loop_out (Zqv xa.length (lm xa) bs.length (lm bs) n (lm out) (i:Int) c (bs.length:Int) (by simp)) nofun
 | succ r ih =>
  intro k out c hk hl hu hc;have hai:=Zt ha i;have hbk:=Zt hb k;have hok:=Zt hu (i+k);obtain⟨w1,w2,w3,w4⟩:=Si hai hbk hc hok;have ei:i64.wrap ((i:Int)+(k:Int))=((i+k:Nat):Int):=by rw[w64 (by omega) (by omega)];omega
  have ek:i64.wrap ((k:Int)+1)=((k+1:Nat):Int):=by rw[w64 (by omega) (by omega)];omega
  have hz:=Th (xs:=out) (i:=i+k) (by omega);have hx:=J6 (xs:=xa) (i:=i) hi;have hy:=J6 (xs:=bs) (i:=k) (by omega);have hst:=Ka (xs:=out) (i:=i+k) (v:=(c+(out.getD (i+k) 0+xa.getD i 0*bs.getD k 0)) % 4294967296) (by omega);have eW:u64.wrap (c+u64.wrap (u64.wrap (out.getD (i+k) 0)+u64.wrap (u64.wrap (xa.getD i 0)*u64.wrap (bs.getD k 0))))=c+(out.getD (i+k) 0+xa.getD i 0*bs.getD k 0):=by
   have q1:u64.wrap (xa.getD i 0)=xa.getD i 0:=by rw[Qw];omega
   have q2:u64.wrap (bs.getD k 0)=bs.getD k 0:=by rw[Qw];omega
   have q3:u64.wrap (out.getD (i+k) 0)=out.getD (i+k) 0:=by rw[Qw];omega
   rw[q1,q2,q3,Qw,Qw,Qw];omega
  have eS:Int.fdiv (c+(out.getD (i+k) 0+xa.getD i 0*bs.getD k 0)) (2^(min (Int.toNat 32) (IntKind.bits .u64)))=(c+(out.getD (i+k) 0+xa.getD i 0*bs.getD k 0)) / 4294967296:=by
   show Int.fdiv _ 4294967296=_;rw[Int.fdiv_eq_ediv_of_nonneg _ (by omega)]
  have h1:=Zqw xa.length (lm xa) bs.length (lm bs) n (lm out) (lm (out.set (i+k) ((c+(out.getD (i+k) 0+xa.getD i 0*bs.getD k 0)) % 4294967296))) (i:Int) c (k:Int) (xa.getD i 0) (bs.getD k 0) (out.getD (i+k) 0)
   (by simp;omega) (by rw[ei];omega) (by rw[ei,Int.toNat_natCast];exact hz) (by omega) (by rw[Int.toNat_natCast];exact hx) (by omega) (by rw[Int.toNat_natCast];exact hy) (by rw[ei];omega) (by rw[ei,Int.toNat_natCast,eW,Wj];exact hst)
  rw[eW,eS,ek] at h1;exact Za.loop h1 (ih (k+1) _ _ (by omega) (by simpa using hl) (Q4 hu (by omega)) (by omega))
theorem Zjv (xa bs:List Int) (ha:U32 xa) (hb:U32 bs) (hN:xa.length+bs.length<=1048576):∀ (r i:Nat) (out:List Int),r+i=xa.length->out.length=xa.length+bs.length->U32 out->(∀ j,i+bs.length<=j->out.getD j 0=0) ->
  ∃ out',out'.length=xa.length+bs.length/\U32 out'/\Zj out'=Zj out+4294967296^i*(Zj (xa.drop i)*Zj bs) /\
   Za Yir (.loop R4) (Bl xa.length (lm xa) bs.length (lm bs) (xa.length+bs.length) (lm out) (i:Int)) (.exit 0) (Bl xa.length (lm xa) bs.length (lm bs) (xa.length+bs.length) (lm out') (xa.length:Int)):=by
 intro r;induction r with
 | zero =>
  intro i out hi hl hu _;have hi':i=xa.length:=by omega
  subst hi';refine⟨out,hl,hu,by simp[Zj],?_⟩;exact Za.loop_out (Zkb xa.length (lm xa) bs.length (lm bs) (xa.length+bs.length) (lm out) (xa.length:Int) (by simp)) nofun
 | succ r ih =>
  intro i out hi hl hu hz;have hai:=Zt ha i;have hlt:i<xa.length:=by omega
  have hin:=Zjw xa bs ha hb (xa.length+bs.length) i hN hlt (by omega) bs.length 0 out 0 (by omega) hl hu (by omega);obtain⟨g1,g2,g3,g4,g5⟩:=Zb9 (i:=i) hai hb bs.length 0 out 0 (by omega) (by omega) hu (by omega);generalize H8 (xa.getD i 0) bs i bs.length 0 out 0=q at *
  obtain⟨ds,c⟩:=q;dsimp only at g1 g2 g3 g4 g5 hin;have ei:i64.wrap ((i:Int)+(bs.length:Int))=((i+bs.length:Nat):Int):=by rw[w64 (by omega) (by omega)];omega
  have ei1:i64.wrap ((i:Int)+1)=((i+1:Nat):Int):=by rw[w64 (by omega) (by omega)];omega
  have ec:u32.wrap c=c:=by rw[Wj];omega
  have hst:=Ka (xs:=ds) (i:=i+bs.length) (v:=c) (by omega);have h1:=Zem xa.length (lm xa) bs.length (lm bs) (xa.length+bs.length) (lm out) (lm ds) (lm (ds.set (i+bs.length) c)) (i:Int) c (bs.length:Int) (by simp;omega) hin (by rw[ei];omega) (by rw[ei,Int.toNat_natCast,ec];exact hst);rw[ei1] at h1;obtain⟨out',k1,k2,k3,k4⟩:=ih (i+1) (ds.set (i+bs.length) c) (by omega) (by simp;omega) (Q4 g2 g3) (fun j hj=>by rw[Gx (by omega),g5 j (by omega),hz j (by omega)]);refine⟨out',k1,k2,?_,Za.loop h1 k4⟩;have hv:Zj (ds.set (i+bs.length) c)=Zj out+4294967296^i*(xa.getD i 0*Zj bs):=by
   rw[Jy ds _ _ (by omega),g5 _ (Nat.le_refl _),hz _ (Nat.le_refl _)];simp only[Nat.add_zero,List.drop_zero,Int.zero_add,Int.sub_zero] at g4 |-;exact g4
  have hd:Zj (xa.drop i)=xa.getD i 0+4294967296*Zj (xa.drop (i+1)):=by
   rw[List.drop_eq_getElem_cons hlt];simp[Zj,List.getD_eq_getElem?_getD,List.getElem?_eq_getElem hlt]
  rw[k3,hv,hd,Int.pow_succ];generalize (4294967296:Int)^i=p at *
  generalize Zj (xa.drop (i+1))=V at *
  grind
theorem Zdj {xa bs:List Int} (ha:U32 xa) (hb:U32 bs) (hN:xa.length+bs.length<=1048576) :
  ∃ out,out.length=xa.length+bs.length/\U32 out/\Zj out=Zj xa*Zj bs/\Zc Yir 146 [.sl xa.length (lm xa),.sl bs.length (lm bs)] (.fresh 1 out.length (lm out)):=by
 have en:i64.wrap ((xa.length:Int)+(bs.length:Int))=((xa.length+bs.length:Nat):Int):=by rw[w64 (by omega) (by omega)];omega
 have eN:(Int.toNat (i64.wrap ((xa.length:Int)+(bs.length:Int))))=xa.length+bs.length:=by rw[en,Int.toNat_natCast]
 obtain⟨out,h1,h2,h3,h4⟩:=Zjv xa bs ha hb hN xa.length 0 (List.replicate (xa.length+bs.length) 0) (by omega) (by simp) (fun x hx=>by rw[List.eq_of_mem_replicate hx];omega) (fun j _=>by simp[List.getD_eq_getElem?_getD,List.getElem?_replicate];split <;> rfl);refine⟨out,h1,h2,?_,?_⟩
 ·rw[h3,Xe];simp
 have hmk:0<=i64.wrap ((xa.length:Int)+(bs.length:Int))/\i64.wrap ((xa.length:Int)+(bs.length:Int))<=1048576:=by rw[en];omega
 have hl:Za Yir (.loop R4) (Bl xa.length (lm xa) bs.length (lm bs) (Int.toNat (i64.wrap ((xa.length:Int)+(bs.length:Int)))) (Ju [.int .u32 0] (Int.toNat (i64.wrap ((xa.length:Int)+(bs.length:Int))))) 0) (.exit 0) (Bl xa.length (lm xa) bs.length (lm bs) (Int.toNat (i64.wrap ((xa.length:Int)+(bs.length:Int)))) (lm out) (xa.length:Int)):=by
  rw[eN,Xz];exact h4
 have:=Zc.of_bodyW (prog:=Yir) (f:=146) (args:=[.sl xa.length (lm xa),.sl bs.length (lm bs)]) (r := .fresh 1 (Int.toNat (i64.wrap ((xa.length:Int)+(bs.length:Int)))) (lm out)) (fn:=Zk7) (s:=(.val (.sl xa.length (lm xa))::(.val (.sl bs.length (lm bs))::(dds 2 (.own 1 (Int.toNat (i64.wrap ((xa.length:Int)+(bs.length:Int)))) (lm out)::(dds 1 (.val (.int .i64 (xa.length:Int))::(dds 59 [])))))))) (ex := .ret) rfl rfl
  (Za.seq (Za.script (t:=(.val (.sl xa.length (lm xa))::(.val (.sl bs.length (lm bs))::(dds 2 (.own 1 0 []::(dds 61 [])))))) (ex := .norm) (ps:=[]) Xh 300 [] [0,1,4] (by kernel_rfl) trivial)
  (Za.seq (Za.script (t:=(.val (.sl xa.length (lm xa))::(.val (.sl bs.length (lm bs))::(dds 2 (.own 1 0 []::(.own 1 (Int.toNat (i64.wrap ((xa.length:Int)+(bs.length:Int)))) (Ju [.int .u32 0] (Int.toNat (i64.wrap ((xa.length:Int)+(bs.length:Int)))))::(dds 3 (.val (.sl xa.length (lm xa))::(.val (.int .i64 (xa.length:Int))::(.val (.sl bs.length (lm bs))::(.val (.int .i64 (bs.length:Int))::(.val (.int .i64 (i64.wrap ((xa.length:Int)+(bs.length:Int))))::(dds 52 []))))))))))))) (ex := .norm) (ps:=[0<=(i64.wrap ((xa.length:Int)+(bs.length:Int)))/\(i64.wrap ((xa.length:Int)+(bs.length:Int)))<=1048576]) Xh 300 [] [0,1,4,5,9,10,11,12,13] (by kernel_rfl) ⟨hmk,trivial⟩)
  (Za.seq (Za.seq (Za.script (t:=(.val (.sl xa.length (lm xa))::(.val (.sl bs.length (lm bs))::(dds 2 (.own 1 0 []::(.own 1 (Int.toNat (i64.wrap ((xa.length:Int)+(bs.length:Int)))) (Ju [.int .u32 0] (Int.toNat (i64.wrap ((xa.length:Int)+(bs.length:Int)))))::(.val (.int .i64 0)::(dds 59 [])))))))) (ex := .norm) (ps:=[]) Xh 300 [] [0,1,4,5,6] (by kernel_rfl) trivial)
  (Za.block hl))
  (Za.script (t:=(.val (.sl xa.length (lm xa))::(.val (.sl bs.length (lm bs))::(dds 2 (.own 1 (Int.toNat (i64.wrap ((xa.length:Int)+(bs.length:Int)))) (lm out)::(dds 1 (.val (.int .i64 (xa.length:Int))::(dds 59 [])))))))) (ex := .ret) (ps:=[]) Xh 300 [] [0,1,4,6] (by kernel_rfl) trivial)))) nofun rfl
 rw[eN,<- h1] at this;exact this
def TBC:J8:=TBB
theorem Qy:Q9 Yir TBC:=Xh
end Go.Proofs.YtopjpgejefileaaGreat

namespace Go.Ai
open Go.IntKind (i64 u64 u32)
theorem Q3:∀ (xs:List Int) (i:Nat),Zj (xs.drop i)=xs.getD i 0+4294967296*Zj (xs.drop (i+1))
 | [],i=>by simp[Zj]
 | x::xs,0=>by simp[Zj]
 | x::xs,i+1=>by
  have:=Q3 xs i;simpa using this
theorem Qq {xs:List Int} {i j:Nat} {v:Int} (h:i ≠ j):(xs.set i v).getD j 0=xs.getD j 0:=by
 simp only[List.getD_eq_getElem?_getD,List.getElem?_set_ne h]
theorem Qo {xs:List Int} {i:Nat} (h:xs.length<=i):xs.getD i 0=0:=by
 simp[List.getD_eq_getElem?_getD,List.getElem?_eq_none h]
theorem J0 {xs:List Int} {i:Nat} (h:xs.length<=i):Zj (xs.drop i)=0:=by
 rw[List.drop_eq_nil_of_le h];rfl
def F3 (xs ys:List Int):Nat->Nat->List Int->Int->List Int × Int
 | 0,_,o,c=>(o,c)
 | r+1,i,o,c=>F3 xs ys r (i+1) (o.set i ((xs.getD i 0+c+ys.getD i 0) % 4294967296)) ((xs.getD i 0+c+ys.getD i 0) / 4294967296)
theorem Zoc {xs ys:List Int} (hx:U32 xs) (hy:U32 ys) (hl:ys.length<=xs.length):∀ (r i:Nat) (o:List Int) (c:Int),r+i=xs.length->xs.length<o.length->U32 o->0<=c/\c<=1->(∀ j,i<=j->o.getD j 0=0) ->
  (F3 xs ys r i o c).1.length=o.length/\U32 (F3 xs ys r i o c).1/\(0<=(F3 xs ys r i o c).2/\(F3 xs ys r i o c).2<=1) /\
  Zj (F3 xs ys r i o c).1+4294967296^xs.length*(F3 xs ys r i o c).2=Zj o+4294967296^i*(c+Zj (xs.drop i)+Zj (ys.drop i)) /\
  ∀ j,xs.length<=j->(F3 xs ys r i o c).1.getD j 0=0:=by
 intro r;induction r with
 | zero =>
  intro i o c hi _ hu hc hz;have hi':i=xs.length:=by omega
  subst hi';refine⟨rfl,hu,hc,?_,fun j hj=>hz j hj⟩;rw[J0 (Nat.le_refl _),J0 hl];simp[F3]
 | succ r ih =>
  intro i o c hi hlo hu hc hz;have h1:=Zt hx i;have h2:=Zt hy i;simp only[F3];have ex:=Q3 xs i;have ey:=Q3 ys i;have hoz:=hz i (Nat.le_refl _);generalize hW:xs.getD i 0+c+ys.getD i 0=W at *
  have hm:0<=W % 4294967296/\W % 4294967296<4294967296:=by omega
  obtain⟨g1,g2,g3,g4,g5⟩:=ih (i+1) (o.set i (W % 4294967296)) (W / 4294967296) (by omega) (by simpa using hlo) (Q4 hu hm) (by omega) (fun j hj=>by rw[Qq (by omega)];exact hz j (by omega));refine⟨by simpa using g1,g2,g3,?_,g5⟩;rw[g4,Jy o i _ (by omega),ex,ey,hoz,Int.pow_succ];generalize (4294967296:Int)^i=p at *
  generalize Zj (xs.drop (i+1))=V at *
  generalize Zj (ys.drop (i+1))=U at *
  have e1:W=4294967296*(W / 4294967296)+W % 4294967296:=by omega
  have e2:c=W-xs.getD i 0-ys.getD i 0:=by omega
  rw[e2];generalize W / 4294967296=q at *
  generalize W % 4294967296=m at *
  generalize xs.getD i 0=a at *
  generalize ys.getD i 0=b at *
  subst e1;grind
def Dc (xs ys:List Int):Nat->Nat->List Int->Int->List Int × Int
 | 0,_,o,c=>(o,c)
 | r+1,i,o,c=>Dc xs ys r (i+1) (o.set i ((xs.getD i 0-c-ys.getD i 0) % 4294967296)) (-((xs.getD i 0-c-ys.getD i 0) / 4294967296))
theorem Zmu {xs ys:List Int} (hx:U32 xs) (hy:U32 ys) (hl:ys.length<=xs.length):∀ (r i:Nat) (o:List Int) (c:Int),r+i=xs.length->xs.length<=o.length->U32 o->0<=c/\c<=1->(∀ j,i<=j->o.getD j 0=0) ->
  (Dc xs ys r i o c).1.length=o.length/\U32 (Dc xs ys r i o c).1/\(0<=(Dc xs ys r i o c).2/\(Dc xs ys r i o c).2<=1) /\
  Zj (Dc xs ys r i o c).1=Zj o+4294967296^i*(Zj (xs.drop i)-Zj (ys.drop i)-c)+4294967296^xs.length*(Dc xs ys r i o c).2:=by
 intro r;induction r with
 | zero =>
  intro i o c hi _ hu hc hz;have hi':i=xs.length:=by omega
  subst hi';refine⟨rfl,hu,hc,?_⟩;rw[J0 (Nat.le_refl _),J0 hl];simp only[Dc];generalize (4294967296:Int)^xs.length=p;grind
 | succ r ih =>
  intro i o c hi hlo hu hc hz;have h1:=Zt hx i;have h2:=Zt hy i;simp only[Dc];have ex:=Q3 xs i;have ey:=Q3 ys i;have hoz:=hz i (Nat.le_refl _);generalize hW:xs.getD i 0-c-ys.getD i 0=W at *
  have hm:0<=W % 4294967296/\W % 4294967296<4294967296:=by omega
  obtain⟨g1,g2,g3,g4⟩:=ih (i+1) (o.set i (W % 4294967296)) (-(W / 4294967296)) (by omega) (by simpa using hlo) (Q4 hu hm) (by omega) (fun j hj=>by rw[Qq (by omega)];exact hz j (by omega));refine⟨by simpa using g1,g2,g3,?_⟩;rw[g4,Jy o i _ (by omega),ex,ey,hoz,Int.pow_succ];generalize (4294967296:Int)^i=p at *
  generalize Zj (xs.drop (i+1))=V at *
  generalize Zj (ys.drop (i+1))=U at *
  have e1:W=4294967296*(W / 4294967296)+W % 4294967296:=by omega
  have e2:c=xs.getD i 0-ys.getD i 0-W:=by omega
  rw[e2];generalize W / 4294967296=q at *
  generalize W % 4294967296=m at *
  generalize xs.getD i 0=a at *
  generalize ys.getD i 0=b at *
  subst e1;grind
theorem Jn (n j:Nat):(List.replicate n (0:Int)).getD j 0=0:=by
 simp[List.getD_eq_getElem?_getD,List.getElem?_replicate];split <;> rfl
theorem Xk (n:Nat):U32 (List.replicate n 0):=fun x hx=>by rw [List.eq_of_mem_replicate hx];omega
theorem Zh6 {xs ys:List Int} (hx:U32 xs) (hy:U32 ys) (hl:ys.length<=xs.length) (o:List Int) (c:Int) (e:F3 xs ys xs.length 0 (List.replicate (xs.length+1) 0) 0=(o,c)) :
  o.length=xs.length+1/\U32 o/\(0<=c/\c<=1)/\U32 (o.set xs.length c)/\Zj (o.set xs.length c)=Zj xs+Zj ys:=by
 obtain⟨g1,g2,g3,g4,g5⟩:=Zoc hx hy hl xs.length 0 (List.replicate (xs.length+1) 0) 0 (by omega) (by simp) (Xk _) (by omega) (fun j _=>Jn _ j);rw[e] at g1 g2 g3 g4 g5;dsimp only at g1 g2 g3 g4 g5;have hlo:o.length=xs.length+1:=by simpa using g1
 refine⟨hlo,g2,g3,Q4 g2 (by omega),?_⟩;rw[Jy o _ _ (by omega),g5 _ (Nat.le_refl _),Int.sub_zero,g4,Xe];simp
theorem Zfj {xs ys:List Int} (hx:U32 xs) (hy:U32 ys) (hl:ys.length<=xs.length) (hv:Zj ys<=Zj xs) (o:List Int) (c:Int) (e:Dc xs ys xs.length 0 (List.replicate xs.length 0) 0=(o,c)) :
  o.length=xs.length/\U32 o/\Zj o=Zj xs-Zj ys:=by
 obtain⟨g1,g2,g3,g4⟩:=Zmu hx hy hl xs.length 0 (List.replicate xs.length 0) 0 (by omega) (by simp) (Xk _) (by omega) (fun j _=>Jn _ j);rw[e] at g1 g2 g3 g4;dsimp only at g1 g2 g3 g4;have hlo:o.length=xs.length:=by simpa using g1
 refine⟨hlo,g2,?_⟩;rw[Xe] at g4;simp at g4;have h1:=J2 g2;rw[hlo] at h1;have hp:=Qx xs.length;rcases (show c=0\/c=1 by omega) with h | h
 ·rw[g4,h];simp
 ·rw[h,Int.mul_one] at g4;omega
end Go.Ai

namespace Go.Ai
open Go.IntKind (i64 u64 u32)
abbrev Rn:=Bool × List Int
def Zh (r:Rn):Int:=rv r.1 r.2
def cn (n:Int):Rn:=(decide (n<0),Zb n.natAbs)
def pc (rs:List Rn):List AV:=rs.flatMap fun r=>[.bool r.1,.sl r.2.length (lm r.2)]
def Zf (rs:List Rn):List Int:=rs.map Zh
def pk (ps:List Int):List AV:=pc (ps.map cn)
def z0:Rn:=(false,[])
def Q5 (K:Nat) (r:Rn):Prop:=U32 r.2/\r.2.length<=K
def Zp (r:Rn):AV := .agg [.bool r.1,.sl r.2.length (lm r.2)]
theorem Z0 (n:Int):Zh (cn n)=n:=Vh n
theorem Sv:Zh z0=0:=rfl
theorem Z3 (ps:List Int):Zf (ps.map cn)=ps:=by
 unfold Zf;rw[List.map_map];have:(Zh ∘ cn)=id:=funext Z0;rw[this,List.map_id]
theorem Qi {k:Nat} {n:Int} (h:Jc k n):Q5 k (cn n):=⟨Qk _,h.len⟩
theorem Ds (k:Nat):Q5 k z0:=⟨fun x hx=>(by cases hx),Nat.zero_le _⟩
theorem Q5.mono {j k:Nat} {r:Rn} (h:Q5 j r) (hk:j<=k):Q5 k r:=⟨h.1,Nat.le_trans h.2 hk⟩
theorem Q5.fits {k:Nat} {r:Rn} (h:Q5 k r):Jc k (Zh r):=(Sw h.1).mono h.2
theorem Pk (rs:List Rn):(pc rs).length=rs.length*2:=by
 induction rs with
 | nil=>rfl
 | cons r rs ih=>simp only[pc,List.flatMap_cons,List.length_append,List.length_cons,List.length_nil] at ih |-;omega
theorem Dl (r:Rn) (rs:List Rn):pc (r::rs) = .bool r.1 :: .sl r.2.length (lm r.2)::pc rs:=rfl
theorem Ff (rs ss:List Rn):pc (rs++ss)=pc rs++pc ss:=by simp [pc]
theorem M4:∀ (i:Nat) (rs:List Rn),(pc rs).drop (i*2)=pc (rs.drop i)
 | 0,rs=>by simp
 | i+1,[]=>by simp[pc]
 | i+1,r::rs=>by
  rw[Dl,Nat.add_mul,Nat.one_mul];show (pc rs).drop (i*2)=_;rw[M4 i rs];rfl
theorem Zgd:∀ (i:Nat) (rs:List Rn),(pc rs).take (i*2)=pc (rs.take i)
 | 0,rs=>by simp[pc]
 | i+1,[]=>by simp[pc]
 | i+1,r::rs=>by
  rw[Dl,Nat.add_mul,Nat.one_mul];show _::_::(pc rs).take (i*2)=_;rw[Zgd i rs];rfl
theorem A0 {rs:List Rn} {i:Nat} (h:i<rs.length):Qn (List.drop (i*2) (pc rs)) 0 2 false=some (Zp (rs.getD i z0)):=by
 rw[M4,List.drop_eq_getElem_cons h,Dl];simp[Qn,Zp,List.getD_eq_getElem?_getD,List.getElem?_eq_getElem h]
theorem own_pc {rs:List Rn} {i:Nat} (h:i<rs.length):Qn (pc rs) (i*2) 2 false=some (Zp (rs.getD i z0)):=by
 have h1:=A0 h;have hl:=Pk rs;simp only[Qn,Bool.false_eq_true,if_false,Nat.zero_add,List.drop_zero,List.length_drop] at h1 |-;rw[if_pos (by omega)] at h1;rw[if_pos (by omega)];exact h1
theorem Zgy {rs:List Rn} {i:Nat} {r:Rn} (h:i<rs.length):X9 (pc rs) (i*2) [.bool r.1,.sl r.2.length (lm r.2)]=some (pc (rs.set i r)):=by
 have hl:=Pk rs;simp only[X9,List.length_cons,List.length_nil];rw[if_pos (by omega)];congr 1;have hs:rs.set i r=rs.take i++r::rs.drop (i+1):=by rw[List.set_eq_take_append_cons_drop,if_pos h]
 rw[hs,Ff,Dl,Zgd];have:(pc rs).drop (i*2+(0+1+1))=pc (rs.drop (i+1)):=by rw[<- M4];congr 1;omega
 simp only[Nat.zero_add] at this;rw[this];simp
theorem A7 (n:Nat):Ju [.bool false,.sl 0 []] n=pc (List.replicate n z0):=by
 induction n with
 | zero=>rfl
 | succ n ih=>rw[List.replicate_succ,Dl,<- ih];rfl
theorem Zu3 (rs:List Rn):List.all (pc rs) (fun c => !isI c)=true:=by
 rw[List.all_eq_true];intro c hc;simp only[pc,List.mem_flatMap,List.mem_cons,List.not_mem_nil,or_false] at hc;obtain⟨r,_,rfl | rfl⟩:=hc <;> rfl
theorem Zwp (xs:List Int):List.all (lm xs) isI=true:=by
 rw[List.all_eq_true];intro c hc;simp only[lm,List.mem_map] at hc;obtain⟨x,_,rfl⟩:=hc;rfl
theorem Bf (n:Int):Vf (Zi n)=true:=by
 simp only[Zi,Vf,List.all_cons,Fv,Zwp,List.all_nil,Bool.and_self]
theorem Zn (rs:List Rn):(Zf rs).length=rs.length:=by simp [Zf]
theorem Q1 (rs:List Rn) (i:Nat):(Zf rs).getD i 0=Zh (rs.getD i z0):=by
 simp only[Zf,List.getD_eq_getElem?_getD,List.getElem?_map];cases rs[i]? <;> rfl
theorem Z1 {K:Nat} {rs:List Rn} (h:∀ r∈rs,Q5 K r) (i:Nat):Q5 K (rs.getD i z0):=by
 rw[List.getD_eq_getElem?_getD];cases e:rs[i]? with
 | none=>exact Ds K
 | some r=>exact h r (List.mem_of_getElem? e)
theorem Kc {k:Nat} {ps:List Int} (h:∀ x∈ps,Jc k x):∀ r∈ps.map cn,Q5 k r:=fun r hr=>by
 obtain⟨x,hx,rfl⟩:=List.mem_map.1 hr;exact Qi (h x hx)
theorem Q2 {k:Nat} {rs:List Rn} (h:∀ r∈rs,Q5 k r):∀ x∈Zf rs,Jc k x:=fun x hx=>by
 obtain⟨r,hr,rfl⟩:=List.mem_map.1 hx;exact (h r hr).fits
theorem Zbd {xs ys:List Int} (h:∀ i,xs.getD i 0=ys.getD i 0):∀ n,Zz xs n=Zz ys n:=by
 intro n;induction n with
 | zero=>rfl
 | succ n ih=>simp only[Zz,h n,ih]
theorem Lz (xs:List Int):∀ d,Zz xs (xs.length+d)=Zz xs xs.length:=by
 intro d;induction d with
 | zero=>rfl
 | succ d ih =>
  rw[<- Nat.add_assoc];simp only[Zz];rw[Qo (by omega),if_pos rfl,ih]
theorem Je (xs:List Int) (i:Nat):(Ze xs).getD i 0=xs.getD i 0:=by
 unfold Ze;rcases Nat.lt_or_ge i (Zz xs xs.length) with h | h
 ·simp only[List.getD_eq_getElem?_getD,List.getElem?_take,if_pos h]
 ·have e:(xs.take (Zz xs xs.length)).getD i 0=0:=Qo (by simp;omega);rw[e];rcases Nat.lt_or_ge i xs.length with h2 | h2
  ·exact (G9 xs xs.length i h h2).symm
  ·exact (Qo h2).symm
theorem Hy {xs ys:List Int} (hl:xs.length=ys.length) (h:∀ i,xs.getD i 0=ys.getD i 0):xs=ys:=by
 apply List.ext_getElem hl;intro i h1 h2;have:=h i;simpa [List.getD_eq_getElem?_getD,List.getElem?_eq_getElem h1,List.getElem?_eq_getElem h2] using this
theorem Vd {xs ys:List Int} (h:∀ i,xs.getD i 0=ys.getD i 0):Ze xs=Ze ys:=by
 have hlen:(Ze xs).length=(Ze ys).length:=by
  have h1:∀ zs:List Int,(Ze zs).length=Zz zs zs.length:=fun zs=>by have:=V4 zs zs.length;simp[Ze];omega
  rw[h1,h1];rcases Nat.le_total xs.length ys.length with g | g
  ·have:=Lz xs (ys.length-xs.length);rw[show xs.length+(ys.length-xs.length)=ys.length by omega] at this;rw[<- this,Zbd h]
  ·have:=Lz ys (xs.length-ys.length);rw[show ys.length+(xs.length-ys.length)=xs.length by omega] at this;rw[<- this,Zbd h]
 refine Hy hlen fun i => ?_;rw[Je,Je,h i]
theorem Ug (xs:List Int):(Ze xs).length=Zz xs xs.length:=by have:=V4 xs xs.length;simp [Ze];omega
theorem Znl {xs:List Int} {x:Int} (h:x∈Ze xs):x∈xs:=List.mem_of_mem_take h
theorem As (xs:List Int):Ze (Ze xs)=Ze xs:=Vd (Je xs)
def Zg:List Int->Int->Int
 | [],_=>0
 | p::ps,x=>p+x*Zg ps x
theorem N1 {xs:List Int} (h:∀ i,xs.getD i 0=0) (x:Int):Zg xs x=0:=by
 induction xs with
 | nil=>rfl
 | cons p ps ih =>
  have h0:=h 0;simp at h0;have:=ih (fun i=>by simpa using h (i+1));simp[Zg,h0,this]
theorem Vi:∀ {xs ys:List Int},(∀ i,xs.getD i 0=ys.getD i 0)->∀ x,Zg xs x=Zg ys x
 | [],ys,h,x=>(N1 (fun i=>(h i).symm) x).symm
 | p::ps,[],h,x=>N1 (fun i=>h i) x
 | p::ps,q::qs,h,x=>by
  have h0:=h 0;simp at h0;simp only[Zg,h0];rw[Vi (fun i=>by simpa using h (i+1)) x]
theorem V2 (xs:List Int) (x:Int):Zg (Ze xs) x=Zg xs x:=Vi (Je xs) x
def Up (g:Nat->Rn) (i r:Nat):List Rn:=(List.range i).map g++List.replicate r z0
theorem Kf (g:Nat->Rn) (i r:Nat):(Up g i r).length=i+r:=by simp [Up]
theorem Gy (g:Nat->Rn) (r:Nat):Up g 0 r=List.replicate r z0:=by simp [Up]
theorem Gz (g:Nat->Rn) (i:Nat):Up g i 0=(List.range i).map g:=by simp [Up]
theorem Dw (g:Nat->Rn) (i r:Nat):(Up g i (r+1)).set i (g i)=Up g (i+1) r:=by
 unfold Up;rw[List.set_append_right _ _ (by simp),List.range_succ,List.map_append,List.replicate_succ];simp
theorem Zhg (g:Nat->Rn) (i r:Nat):(Up g i (r+1)).getD i z0=z0:=by
 unfold Up;rw[List.getD_eq_getElem?_getD,List.getElem?_append_right (by simp)];simp
theorem Wr (g:Nat->Rn) (n i:Nat):(Zf ((List.range n).map g)).getD i 0=if i<n then Zh (g i) else 0:=by
 rw[Q1,List.getD_eq_getElem?_getD];by_cases h:i<n
 ·simp[h]
 ·simp[h,Sv]
theorem Mz (xs:List Int):(List.range xs.length).map (fun i=>cn (xs.getD i 0))=xs.map cn:=by
 apply List.ext_getElem (by simp);intro i h1 h2;have h3:i<xs.length:=by simpa using h2
 simp[List.getD_eq_getElem?_getD,List.getElem?_eq_getElem h3]
theorem Fr {K:Nat} {g:Nat->Rn} {n:Nat} (h:∀ i,i<n->Q5 K (g i)):∀ r∈(List.range n).map g,Q5 K r:=fun r hr=>by
 obtain⟨i,hi,rfl⟩:=List.mem_map.1 hr;exact h i (List.mem_range.1 hi)
theorem Vl (k:Nat):Jc k 0:=by unfold Jc;simp;exact Nat.pow_pos (by decide)
theorem Pn {k:Nat} {xs:List Int} (h:∀ x∈xs,Jc k x) (i:Nat):Jc k (xs.getD i 0):=by
 rw[List.getD_eq_getElem?_getD];cases e:xs[i]? with
 | none=>exact Vl k
 | some x=>exact h x (List.mem_of_getElem? e)
def F8 (ps qs:List Int):List Int:=Ze ((List.range (max ps.length qs.length)).map fun i=>ps.getD i 0+qs.getD i 0)
def Vq (ps:List Int):List Int:=ps.map fun x => -x
theorem Xm (ps qs:List Int) (i:Nat):(F8 ps qs).getD i 0=ps.getD i 0+qs.getD i 0:=by
 unfold F8;rw[Je,List.getD_eq_getElem?_getD];by_cases h:i<max ps.length qs.length
 ·simp[h]
 ·have h1:ps.length<=i:=by omega
  have h2:qs.length<=i:=by omega
  rw[Qo h1,Qo h2];simp[h]
theorem Vk (ps:List Int) (i:Nat):(Vq ps).getD i 0 = -(ps.getD i 0):=by
 unfold Vq;simp only[List.getD_eq_getElem?_getD,List.getElem?_map];cases ps[i]? <;> simp
theorem Ej (ps qs:List Int):Ze (F8 ps qs)=F8 ps qs:=As _
theorem Dj (xs:List Int) (x:Int):Zg xs x=xs.getD 0 0+x*Zg (xs.drop 1) x:=by
 cases xs <;> simp[Zg]
theorem Nj:∀ (n:Nat) (us bs cs:List Int),us.length<=n->bs.length<=n->cs.length<=n->(∀ i,cs.getD i 0=us.getD i 0+bs.getD i 0)->∀ x,Zg cs x=Zg us x+Zg bs x:=by
 intro n;induction n with
 | zero =>
  intro us bs cs h1 h2 h3 _ x;rw[List.eq_nil_of_length_eq_zero (by omega:us.length=0),List.eq_nil_of_length_eq_zero (by omega:bs.length=0),List.eq_nil_of_length_eq_zero (by omega:cs.length=0)];rfl
 | succ n ih =>
  intro us bs cs h1 h2 h3 h x;rw[Dj us,Dj bs,Dj cs,h 0,ih (us.drop 1) (bs.drop 1) (cs.drop 1) (by simp;omega) (by simp;omega) (by simp;omega) (fun i=>by
   have:=h (i+1);simpa [List.getD_eq_getElem?_getD,Nat.add_comm] using this) x]
  rw[Int.mul_add];omega
theorem Jf (ps qs:List Int) (x:Int):Zg (F8 ps qs) x=Zg ps x+Zg qs x :=
 Nj (max (max ps.length qs.length) (F8 ps qs).length) ps qs _ (by omega) (by omega) (by omega) (Xm ps qs) x
theorem Hv (ps:List Int) (x:Int):Zg (Vq ps) x = -Zg ps x:=by
 induction ps with
 | nil=>rfl
 | cons p ps ih =>
  have:Vq (p::ps) = -p::Vq ps:=rfl;rw[this];simp only[Zg,ih];rw[Int.mul_neg];omega
def vp (rs : List Rn) : Reg := .val (.sl rs.length (pc rs))
def bR (r : Rn) : Reg := .box [.bool r.1, .sl r.2.length (lm r.2)]
def bN (n : Int) : Reg := .box [.bool (decide (n < 0)), .sl ((Zb (Int.natAbs n)).length) (lm (Zb (Int.natAbs n)))]
end Go.Ai

namespace Go.Ai
open Go.IntKind (i64 u64 u32)
section
variable {prog:Nat->Option IFunc}
theorem Qj.cond_t {c:Opd} {a b:ICode} {s t:Zk} {ex:Ex} (h:c.av s=some (.bool true)) (h1:Qj prog a s ex t):Qj prog (.cond c a b) s ex t:=by
 obtain⟨n,h1⟩:=h1;refine⟨n+1,?_⟩;have e1:=Vm (Uc prog (show n<=n+1 by omega)) (Nat.le_refl n) h1;simp only[evC,By,h,e1]
theorem Qj.cond_f {c:Opd} {a b:ICode} {s t:Zk} {ex:Ex} (h:c.av s=some (.bool false)) (h1:Qj prog b s ex t):Qj prog (.cond c a b) s ex t:=by
 obtain⟨n,h1⟩:=h1;refine⟨n+1,?_⟩;have e1:=Vm (Uc prog (show n<=n+1 by omega)) (Nat.le_refl n) h1;simp only[evC,By,h,e1]
theorem Za.cond_t {c:Opd} {a b:ICode} {s t:Zk} {ex:Ex} {x:Bool} (h:c.av s=some (.bool x)) (hx:x=true) (h1:Za prog a s ex t):Za prog (.cond c a b) s ex t:=by
 subst hx;obtain⟨u,k1,k2⟩:=h1;exact⟨u,Qj.cond_t h k1,k2⟩
theorem Za.cond_f {c:Opd} {a b:ICode} {s t:Zk} {ex:Ex} {x:Bool} (h:c.av s=some (.bool x)) (hx:x=false) (h1:Za prog b s ex t):Za prog (.cond c a b) s ex t:=by
 subst hx;obtain⟨u,k1,k2⟩:=h1;exact⟨u,Qj.cond_f h k1,k2⟩
theorem Za.block_out {id:Nat} {c:ICode} {s t:Zk} {i:Nat} (h:Za prog c s (.exit i) t) (hi:i ≠ id):Za prog (.block id c) s (.exit i) t:=by
 obtain⟨u,k1,k2⟩:=h;exact⟨u,Qj.block_out k1 hi,k2⟩
theorem Za.up {c:ICode} {ex:Ex} {fin:Zk} (st:Nat->Zk) (n:Nat) (hex:ex ≠ .norm) (step:∀ i,i<n->Za prog c (st i) .norm (st (i+1))) (out:Za prog c (st n) ex fin):∀ i,i<=n->Za prog (.loop c) (st i) ex fin:=by
 have key:∀ r i,i+r=n->Za prog (.loop c) (st i) ex fin:=by
  intro r;induction r with
  | zero =>
   intro i hi;have:i=n:=by omega
   subst this;exact Za.loop_out out hex
  | succ r ih =>
   intro i hi;exact Za.loop (step i (by omega)) (ih (i+1) (by omega))
 intro i hi;exact key (n-i) i (by omega)
theorem Za.to {c:ICode} {ex:Ex} {s t s' t':Zk} (h:Za prog c s ex t) (hs:s=s') (ht:t=t'):Za prog c s' ex t':=hs ▸ ht ▸ h
end
theorem Vu {X:Int} {n:Nat} (h:0<=X/\X<(n:Int)):Int.toNat X<n:=by omega
theorem Zu {xs:List Int} {X:Int} (h:0<=X/\X<(xs.length:Int)):Qn (List.drop (Int.toNat X*1) (lm xs)) 0 1 true=some (.int .u32 (xs.getD (Int.toNat X) 0)):=J6 (Vu h)
theorem Zb2 (ws:List Int) (l h:Nat):List.take ((h-l)*1) (List.drop (l*1) (lm ws))=lm ((ws.drop l).take (h-l)):=by
 simp[lm,List.map_take,List.map_drop]
theorem Ns {ws:List Int} {l h m:Nat} {X:Int} {a b:Bool} (hx:0<=X/\X<((h-l:Nat):Int)) (hl:l<=h/\h<=m/\m<=ws.length/\(a=true->b=true)):Qn (List.drop (Int.toNat X*1) (List.take ((h-l)*1) (List.drop (l*1) (lm ws)))) 0 1 true=some (.int .u32 (((ws.drop l).take (h-l)).getD (Int.toNat X) 0)):=by
 rw[Zb2];exact J6 (by have:=Vu hx;simp;omega)
theorem Qu {xs:List Int} {n:Nat} (hl:xs.length=n) {X:Int} (h:0<=X/\X<(n:Int)):Qn (lm xs) (Int.toNat X*1) 1 true=some (.int .u32 (xs.getD (Int.toNat X) 0)):=Th (hl ▸ Vu h)
theorem Jd {xs:List Int} {n:Nat} (hl:xs.length=n) {X:Int} (h:0<=X/\X<(n:Int)) {v:Int}:X9 (lm xs) (Int.toNat X*1) [.int .u32 v]=some (lm (xs.set (Int.toNat X) v)):=Ka (hl ▸ Vu h)
theorem Z9 {rs:List Rn} {X:Int} (h:0<=X/\X<(rs.length:Int)):Qn (List.drop (Int.toNat X*2) (pc rs)) 0 2 false=some (Zp (rs.getD (Int.toNat X) z0)):=A0 (Vu h)
theorem U7 {rs:List Rn} {n:Nat} (hl:rs.length=n) {X:Int} (h:0<=X/\X<(n:Int)):Qn (pc rs) (Int.toNat X*2) 2 false=some (Zp (rs.getD (Int.toNat X) z0)):=own_pc (hl ▸ Vu h)
theorem Uw {rs:List Rn} {n:Nat} (hl:rs.length=n) {X:Int} (h:0<=X/\X<(n:Int)) {r:Rn}:X9 (pc rs) (Int.toNat X*2) [.bool r.1,.sl r.2.length (lm r.2)]=some (pc (rs.set (Int.toNat X) r)):=Zgy (hl ▸ Vu h)
theorem P1 {rs:List Rn} {i:Nat} (h:i<rs.length):List.drop (i*2) (pc rs) = .bool (rs.getD i z0).1 :: .sl (rs.getD i z0).2.length (lm (rs.getD i z0).2)::pc (rs.drop (i+1)):=by
 rw[M4,List.drop_eq_getElem_cons h,Dl];simp[List.getD_eq_getElem?_getD,List.getElem?_eq_getElem h]
theorem Zbe {rs:List Rn} {X:Int} (h:0<=X/\X<(rs.length:Int)):Qn (List.drop 1 (List.drop (Int.toNat X*2) (pc rs))) 0 1 true=some (.sl (rs.getD (Int.toNat X) z0).2.length (lm (rs.getD (Int.toNat X) z0).2)):=by
 rw[P1 (Vu h)];rfl
def pp (ps:List (List Rn)):List AV:=ps.map fun rs => .sl rs.length (pc rs)
theorem pp_get {ps:List (List Rn)} {i:Nat} (h:i<ps.length):(pp ps)[i]?=some (.sl (ps.getD i []).length (pc (ps.getD i []))):=by
 simp[pp,List.getElem?_map,List.getElem?_eq_getElem h,List.getD_eq_getElem?_getD]
theorem Us {ps:List (List Rn)} {X:Int} (h:0<=X/\X<(ps.length:Int)):Qn (List.drop (Int.toNat X*1) (pp ps)) 0 1 true=some (.sl (ps.getD (Int.toNat X) []).length (pc (ps.getD (Int.toNat X) []))):=by
 simp only[Qn,if_true,Nat.mul_one,List.getElem?_drop,Nat.add_zero];exact pp_get (Vu h)
end Go.Ai

namespace Go.Ai
open Go.IntKind (i64 u64 u32)
theorem Pg (xs:List Int) (i:Nat) (v x:Int) (h:i<xs.length):Zg (xs.set i v) x=Zg xs x+x^i*(v-xs.getD i 0):=by
 induction xs generalizing i with
 | nil=>simp at h
 | cons p ps ih =>
  cases i with
  | zero=>simp only[List.set_cons_zero,Zg,Int.pow_zero,List.getD_cons_zero];omega
  | succ i =>
   simp only[List.set_cons_succ,Zg,List.getD_cons_succ];rw[ih i (by simpa using h),Int.pow_succ];generalize x^i=q;generalize Zg ps x=y;generalize ps.getD i 0=z;grind
theorem Eh (n:Nat) (x:Int):Zg (List.replicate n 0) x=0:=by
 induction n with
 | zero=>rfl
 | succ n ih=>simp[List.replicate_succ,Zg,ih]
theorem pzero:∀ (d:List Int) (b:Int),(∀ x,b<=x->Zg d x=0)->∀ i,d.getD i 0=0
 | [],_,_,i=>by simp
 | c::d,b,h,i=>by
  have hc:c=0:=by
   have h1:=h (max b (c.natAbs+1)) (by omega);simp only[Zg] at h1;have h2:(max b ((c.natAbs:Int)+1))∣c:=⟨-(Zg d (max b ((c.natAbs:Int)+1))),by rw[Int.mul_neg];omega⟩;rcases Int.lt_trichotomy c 0 with g | g | g
   ·have:=Int.le_of_dvd (a:=max b ((c.natAbs:Int)+1)) (b := -c) (by omega) ((Int.dvd_neg).2 h2);omega
   ·exact g
   ·have:=Int.le_of_dvd (a:=max b ((c.natAbs:Int)+1)) (b:=c) (by omega) h2;omega
  cases i with
  | zero=>simpa using hc
  | succ i =>
   have:=pzero d (max b 1) (fun x hx=>by
    have h1:=h x (by omega);simp only[Zg,hc,Int.zero_add] at h1;rcases Int.mul_eq_zero.1 h1 with g | g
    ·omega
    ·exact g) i
   simpa using this
theorem Un {p q:List Int} (h:∀ x,Zg p x=Zg q x) (i:Nat):p.getD i 0=q.getD i 0:=by
 have:=pzero (F8 p (Vq q)) 0 (fun x _=>by rw[Jf,Hv,h x];omega) i;rw[Xm,Vk] at this;omega
theorem Wt {p q:List Int} (h:∀ x,Zg p x=Zg q x):Ze p=Ze q:=Vd (Un h)
def Zdb (p q:List Int):List Int:=F8 p (Vq q)
theorem X2 (p q:List Int) (x:Int):Zg (Zdb p q) x=Zg p x-Zg q x:=by rw [Zdb,Jf,Hv];omega
theorem Et (p q:List Int) (i:Nat):(Zdb p q).getD i 0=p.getD i 0-q.getD i 0:=by rw [Zdb,Xm,Vk];omega
def Zy (a:Int) (q:List Int):List Int:=q.map fun x=>a*x
theorem Zq (a:Int) (q:List Int) (x:Int):Zg (Zy a q) x=a*Zg q x:=by
 induction q with
 | nil=>simp[Zy,Zg]
 | cons c q ih =>
  have:Zy a (c::q)=a*c::Zy a q:=rfl;rw[this];simp only[Zg,ih];generalize Zg q x=y;grind
theorem Z5 (a:Int) (q:List Int) (i:Nat):(Zy a q).getD i 0=a*q.getD i 0:=by
 unfold Zy;simp only[List.getD_eq_getElem?_getD,List.getElem?_map];cases q[i]? <;> simp
def U1:List Int->List Int->List Int
 | [],_=>[]
 | a::p,q=>F8 (Zy a q) (0::U1 p q)
theorem Qa (p q:List Int) (x:Int):Zg (U1 p q) x=Zg p x*Zg q x:=by
 induction p with
 | nil=>simp[U1,Zg]
 | cons a p ih =>
  simp only[U1,Jf,Zq,Zg,ih];generalize Zg q x=y;generalize Zg p x=z;grind
theorem Pf (p q:List Int):Ze (U1 p q)=U1 p q:=by
 cases p with
 | nil=>rfl
 | cons a p=>exact Ej _ _
theorem Xj {k:Nat} {p:List Int} (hp:∀ x∈p,Jc k x):∀ x∈Ze p,Jc k x:=fun x hx=>hp x (Znl hx)
theorem Znh (p q:List Int):(F8 p q).length<=max p.length q.length:=by
 have:=Qb ((List.range (max p.length q.length)).map fun i=>p.getD i 0+q.getD i 0);simpa [F8] using this
theorem X1 (p:List Int):(Vq p).length=p.length:=by simp [Vq]
def hv:List Int->Int->Int->Int
 | [],_,_=>0
 | t::ts,x,d=>t*d^ts.length+x*hv ts x d
end Go.Ai

namespace Go.Proofs.YtopjpgejefileaaGreat
open Go.IntKind (i64 u64 u32)
open Go.Ai
set_option maxRecDepth 100000
theorem Zia (neg:Bool) (xs:List Int) (c1:((((Ze xs).length:Nat):Int)==0)=true) (n1:Zc Yir 99 [.sl xs.length (lm xs)] (.fresh 1 ((Ze xs).length) (lm (Ze xs)))):Zc Yir 79 [.agg [.bool neg,.sl xs.length (lm xs)]] (.int .i64 0):=Zc.go (fn:=Z3q) Qy rfl 400 rfl [.r (.fresh 1 ((Ze xs).length) (lm (Ze xs))),.b true] (ac n1 (ac c1 a0))
theorem Zh9 (neg:Bool) (xs:List Int) (c1:((((Ze xs).length:Nat):Int)==0)=false) (c2:(neg)=true) (n1:Zc Yir 99 [.sl xs.length (lm xs)] (.fresh 1 ((Ze xs).length) (lm (Ze xs)))):Zc Yir 79 [.agg [.bool neg,.sl xs.length (lm xs)]] (.int .i64 (-1)):=Zc.go (fn:=Z3q) Qy rfl 400 rfl [.r (.fresh 1 ((Ze xs).length) (lm (Ze xs))),.b false,.b true] (ac n1 (ac c1 (ac c2 a0)))
theorem Zh8 (neg:Bool) (xs:List Int) (c1:((((Ze xs).length:Nat):Int)==0)=false) (c2:(neg)=false) (n1:Zc Yir 99 [.sl xs.length (lm xs)] (.fresh 1 ((Ze xs).length) (lm (Ze xs)))):Zc Yir 79 [.agg [.bool neg,.sl xs.length (lm xs)]] (.int .i64 1):=Zc.go (fn:=Z3q) Qy rfl 400 rfl [.r (.fresh 1 ((Ze xs).length) (lm (Ze xs))),.b false,.b false] (ac n1 (ac c1 (ac c2 a0)))
theorem Zxt (neg:Bool) (xs:List Int) (v:Int) (n1:Zc Yir 98 [.bool (!neg),.sl xs.length (lm xs)] (Uq v)):Zc Yir 161 [.agg [.bool neg,.sl xs.length (lm xs)]] (Zi v):=Zc.go (fn:=Zkz) Qy rfl 400 rfl [.r (Uq v)] (ac n1 a0)
theorem Yrun97 (neg:Bool) (xs:List Int) (v:Int) (n1:Zc Yir 98 [.bool neg,.sl xs.length (lm xs)] (Uq v)):Zc Yir 97 [.agg [.bool neg,.sl xs.length (lm xs)]] (Zi v):=Zc.go (fn:=Yi97) Qy rfl 400 rfl [.r (Uq v)] (ac n1 a0)
def Gc (xs:List Int) (ys:List Int) (n:Nat) (cs:List AV) (c:Int) (i:Int):Zk:=(.val (.sl xs.length (lm xs))::(.val (.sl ys.length (lm ys))::(dds 3 (.own 1 n cs::(.val (.int .u64 c)::(.val (.int .i64 i)::(dds 46 [])))))))
theorem Z0e (xs:List Int) (ys:List Int) (n:Nat) (cs:List AV) (c:Int) (i:Int)  (c1:(decide (i<(xs.length:Int)))=true) (c2:(decide (i<(ys.length:Int)))=true) (n1:0<=i/\i<(xs.length:Int)) (n2:0<=i/\i<(ys.length:Int)) (n3:n+1<=35184372088832):Za Yir Lt (Gc xs ys n cs c i) .norm (Gc xs ys (n+1) (cs++([.int .u32 (u32.wrap (u64.wrap ((u64.wrap (c+(u64.wrap (xs.getD (Int.toNat i) 0))))+(u64.wrap (ys.getD (Int.toNat i) 0)))))]:List AV)) (Int.fdiv (u64.wrap ((u64.wrap (c+(u64.wrap (xs.getD (Int.toNat i) 0))))+(u64.wrap (ys.getD (Int.toNat i) 0)))) (2^(min (Int.toNat 32) (IntKind.bits .u64)))) (i64.wrap (i+1))):=(Za.go Qy 400 [.b true,.b true,.b true,.b true,.v (.int .u32 (xs.getD (Int.toNat i) 0)),.b true,.v (.int .u32 (ys.getD (Int.toNat i) 0))] [0,1,5,6,7] (ac c1 (ac (show true=true from rfl) (ac (show true=true from rfl) (ac c1 (ac n1 (ac (Zu n1) (ac c2 (ac n2 (ac (Zu n2) (ac (show List.length ([.int .u32 (u32.wrap (u64.wrap ((u64.wrap (c+(u64.wrap (xs.getD (Int.toNat i) 0))))+(u64.wrap (ys.getD (Int.toNat i) 0)))))]:List AV)=1*1 from rfl) (ac n3 (ac (show ¬ (32:Int)<0 from (by decide)) a0)))))))))))))
theorem Z0d (xs:List Int) (ys:List Int) (n:Nat) (cs:List AV) (c:Int) (i:Int)  (c1:(decide (i<(xs.length:Int)))=true) (c2:(decide (i<(ys.length:Int)))=false) (n1:0<=i/\i<(xs.length:Int)) (n2:n+1<=35184372088832):Za Yir Lt (Gc xs ys n cs c i) .norm (Gc xs ys (n+1) (cs++([.int .u32 (u32.wrap (u64.wrap (c+(u64.wrap (xs.getD (Int.toNat i) 0)))))]:List AV)) (Int.fdiv (u64.wrap (c+(u64.wrap (xs.getD (Int.toNat i) 0)))) (2^(min (Int.toNat 32) (IntKind.bits .u64)))) (i64.wrap (i+1))):=(Za.go Qy 400 [.b true,.b true,.b true,.b true,.v (.int .u32 (xs.getD (Int.toNat i) 0)),.b false] [0,1,5,6,7] (ac c1 (ac (show true=true from rfl) (ac (show true=true from rfl) (ac c1 (ac n1 (ac (Zu n1) (ac c2 (ac (show List.length ([.int .u32 (u32.wrap (u64.wrap (c+(u64.wrap (xs.getD (Int.toNat i) 0)))))]:List AV)=1*1 from rfl) (ac n2 (ac (show ¬ (32:Int)<0 from (by decide)) a0)))))))))))
theorem Z0c (xs:List Int) (ys:List Int) (n:Nat) (cs:List AV) (c:Int) (i:Int)  (c1:(decide (i<(xs.length:Int)))=false) (c2:(decide (i<(ys.length:Int)))=true) (n1:0<=i/\i<(ys.length:Int)) (n2:n+1<=35184372088832):Za Yir Lt (Gc xs ys n cs c i) .norm (Gc xs ys (n+1) (cs++([.int .u32 (u32.wrap (u64.wrap (c+(u64.wrap (ys.getD (Int.toNat i) 0)))))]:List AV)) (Int.fdiv (u64.wrap (c+(u64.wrap (ys.getD (Int.toNat i) 0)))) (2^(min (Int.toNat 32) (IntKind.bits .u64)))) (i64.wrap (i+1))):=(Za.go Qy 400 [.b false,.b true,.b true,.b false,.b true,.v (.int .u32 (ys.getD (Int.toNat i) 0))] [0,1,5,6,7] (ac c1 (ac c2 (ac (show true=true from rfl) (ac c1 (ac c2 (ac n1 (ac (Zu n1) (ac (show List.length ([.int .u32 (u32.wrap (u64.wrap (c+(u64.wrap (ys.getD (Int.toNat i) 0)))))]:List AV)=1*1 from rfl) (ac n2 (ac (show ¬ (32:Int)<0 from (by decide)) a0)))))))))))
theorem Z0b (xs:List Int) (ys:List Int) (n:Nat) (cs:List AV) (c:Int) (i:Int)  (c1:(decide (i<(xs.length:Int)))=false) (c2:(decide (i<(ys.length:Int)))=false) (c3:(decide (c>0))=true) (n1:n+1<=35184372088832):Za Yir Lt (Gc xs ys n cs c i) .norm (Gc xs ys (n+1) (cs++([.int .u32 (u32.wrap c)]:List AV)) (Int.fdiv c (2^(min (Int.toNat 32) (IntKind.bits .u64)))) (i64.wrap (i+1))):=(Za.go Qy 400 [.b false,.b false,.b true,.b false,.b false] [0,1,5,6,7] (ac c1 (ac c2 (ac c3 (ac c1 (ac c2 (ac (show List.length ([.int .u32 (u32.wrap c)]:List AV)=1*1 from rfl) (ac n1 (ac (show ¬ (32:Int)<0 from (by decide)) a0)))))))))
theorem Zkf (xs:List Int) (ys:List Int) (n:Nat) (cs:List AV) (c:Int) (i:Int)  (c1:(decide (i<(xs.length:Int)))=false) (c2:(decide (i<(ys.length:Int)))=false) (c3:(decide (c>0))=false):Za Yir Lt (Gc xs ys n cs c i) (.exit 0) (Gc xs ys n cs c i):=(Za.go Qy 400 [.b false,.b false,.b false] [0,1,5,6,7] (ac c1 (ac c2 (ac c3 a0))))
theorem Zx1 (xs ys:List Int) (n:Nat) (cs:List AV) (c i:Int) (hl1:Za Yir (.loop Lt) (Gc xs ys 0 ([]:List AV) 0 0) (.exit 0) (Gc xs ys n cs c i)):Zc Yir 144 [.sl xs.length (lm xs),.sl ys.length (lm ys)] (.fresh 1 n cs):=Zc.of_bodyW (fn:=Zk9) (s:=(dds 1 (.val (.sl ys.length (lm ys))::(dds 2 (.own 1 n cs::(dds 49 [])))))) (ex := .ret) rfl rfl (Za.asc (Za.asc (Za.csi (Za.seq (Za.go Qy 400 [] [0,1,5,6,7] a0) (Za.seq (Za.block hl1) (Za.go Qy 400 [] [1,4] a0)))))) nofun rfl
def B4 (xs:List Int) (ys:List Int) (n:Nat) (cs:List AV) (c:Int) (i:Int):Zk:=(.val (.sl xs.length (lm xs))::(.val (.sl ys.length (lm ys))::(dds 3 (.own 1 n cs::(.val (.int .u64 c)::(.val (.int .i64 i)::(dds 34 [])))))))
theorem Z0a (xs:List Int) (ys:List Int) (n:Nat) (cs:List AV) (c:Int) (i:Int)  (c1:(decide (i<(xs.length:Int)))=true) (c2:(decide (i<(ys.length:Int)))=true) (n1:0<=i/\i<(ys.length:Int)) (n2:0<=i/\i<(xs.length:Int)) (n3:n+1<=35184372088832):Za Yir Zav (B4 xs ys n cs c i) .norm (B4 xs ys (n+1) (cs++([.int .u32 (u32.wrap (u64.wrap ((u64.wrap ((u64.wrap (xs.getD (Int.toNat i) 0))-(u64.wrap (ys.getD (Int.toNat i) 0))))-c)))]:List AV)) (Int.fdiv (u64.wrap ((u64.wrap ((u64.wrap (xs.getD (Int.toNat i) 0))-(u64.wrap (ys.getD (Int.toNat i) 0))))-c)) (2^(min (Int.toNat 63) (IntKind.bits .u64)))) (i64.wrap (i+1))):=(Za.go Qy 400 [.b true,.b true,.v (.int .u32 (ys.getD (Int.toNat i) 0)),.v (.int .u32 (xs.getD (Int.toNat i) 0))] [0,1,5,6,7] (ac c1 (ac c2 (ac n1 (ac (Zu n1) (ac n2 (ac (Zu n2) (ac (show List.length ([.int .u32 (u32.wrap (u64.wrap ((u64.wrap ((u64.wrap (xs.getD (Int.toNat i) 0))-(u64.wrap (ys.getD (Int.toNat i) 0))))-c)))]:List AV)=1*1 from rfl) (ac n3 (ac (show ¬ (63:Int)<0 from (by decide)) a0))))))))))
theorem Zz9 (xs:List Int) (ys:List Int) (n:Nat) (cs:List AV) (c:Int) (i:Int)  (c1:(decide (i<(xs.length:Int)))=true) (c2:(decide (i<(ys.length:Int)))=false) (n1:0<=i/\i<(xs.length:Int)) (n2:n+1<=35184372088832):Za Yir Zav (B4 xs ys n cs c i) .norm (B4 xs ys (n+1) (cs++([.int .u32 (u32.wrap (u64.wrap ((u64.wrap ((u64.wrap (xs.getD (Int.toNat i) 0))-0))-c)))]:List AV)) (Int.fdiv (u64.wrap ((u64.wrap ((u64.wrap (xs.getD (Int.toNat i) 0))-0))-c)) (2^(min (Int.toNat 63) (IntKind.bits .u64)))) (i64.wrap (i+1))):=(Za.go Qy 400 [.b true,.b false,.v (.int .u32 (xs.getD (Int.toNat i) 0))] [0,1,5,6,7] (ac c1 (ac c2 (ac n1 (ac (Zu n1) (ac (show List.length ([.int .u32 (u32.wrap (u64.wrap ((u64.wrap ((u64.wrap (xs.getD (Int.toNat i) 0))-0))-c)))]:List AV)=1*1 from rfl) (ac n2 (ac (show ¬ (63:Int)<0 from (by decide)) a0))))))))
theorem Zz8 (xs:List Int) (ys:List Int) (n:Nat) (cs:List AV) (c:Int) (i:Int)  (c1:(decide (i<(xs.length:Int)))=false):Za Yir Zav (B4 xs ys n cs c i) (.exit 0) (B4 xs ys n cs c i):=(Za.go Qy 400 [.b false] [0,1,5,6,7] (ac c1 a0))
theorem Zx0 (xs ys:List Int) (n:Nat) (cs:List AV) (c i:Int) (hl1:Za Yir (.loop Zav) (B4 xs ys 0 ([]:List AV) 0 0) (.exit 0) (B4 xs ys n cs c i)):Zc Yir 145 [.sl xs.length (lm xs),.sl ys.length (lm ys)] (.fresh 1 n cs):=Zc.of_bodyW (fn:=Zk8) (s:=(dds 1 (.val (.sl ys.length (lm ys))::(dds 2 (.own 1 n cs::(dds 37 [])))))) (ex := .ret) rfl rfl (Za.asc (Za.asc (Za.csi (Za.seq (Za.go Qy 400 [] [0,1,5,6,7] a0) (Za.seq (Za.block hl1) (Za.go Qy 400 [] [1,4] a0)))))) nofun rfl
theorem Wm (xs:List Int) (v:Int):lm xs++([.int .u32 v]:List AV)=lm (xs++[v]):=by simp [lm]
theorem G6 {xs:List Int} (h:U32 xs) {v:Int} (hv:0<=v/\v<4294967296):U32 (xs++[v]):=by
 intro x hx;rcases List.mem_append.1 hx with g | g
 ·exact h x g
 ·rw[List.mem_singleton.1 g];exact hv
theorem Kz (xs:List Int) (v:Int):Zj (xs++[v])=Zj xs+4294967296^xs.length*v:=by rw [Uf];simp [Zj]
theorem sr32 {s:Int}:Int.fdiv s (2^(min (Int.toNat 32) (IntKind.bits .u64)))=s / 4294967296:=by
 show Int.fdiv s 4294967296=_;rw[Int.fdiv_eq_ediv_of_nonneg _ (by omega)]
theorem sr63 {s:Int}:Int.fdiv s (2^(min (Int.toNat 63) (IntKind.bits .u64)))=s / 9223372036854775808:=by
 show Int.fdiv s 9223372036854775808=_;rw[Int.fdiv_eq_ediv_of_nonneg _ (by omega)]
theorem Zqp {xs ys:List Int} (hx:U32 xs) (hy:U32 ys) (h1:xs.length<1048576) (h2:ys.length<1048576):∀ (r i:Nat) (acc:List Int) (c:Int),i+r=max xs.length ys.length->acc.length=i->U32 acc->0<=c/\c<=1 ->
  ∃ (zs:List Int) (c' i':Int),U32 zs/\zs.length<=max xs.length ys.length+1/\Zj zs=Zj acc+4294967296^i*(c+Zj (xs.drop i)+Zj (ys.drop i)) /\
   Za Yir (.loop Lt) (Gc xs ys i (lm acc) c (i:Nat)) (.exit 0) (Gc xs ys zs.length (lm zs) c' i'):=by
 intro r;induction r with
 | zero =>
  intro i acc c hi hl hu hc;have e1:Zj (xs.drop i)=0:=J0 (by omega);have e2:Zj (ys.drop i)=0:=J0 (by omega);have g1:decide ((i:Int)<(xs.length:Int))=false:=by simp;omega
  have g2:decide ((i:Int)<(ys.length:Int))=false:=by simp;omega
  by_cases hc0:c=0
  ·refine⟨acc,c,i,hu,by omega,by rw[e1,e2,hc0];simp,?_⟩;rw[hl];exact Za.loop_out (Zkf xs ys i (lm acc) c (i:Nat) g1 g2 (by simp;omega)) nofun
  ·have hc1:c=1:=by omega
   subst hc1;refine⟨acc++[1],0,i64.wrap ((i:Int)+1),G6 hu (by omega),by simp;omega,by rw[Kz,e1,e2,hl];simp,?_⟩;have k:=Z0b xs ys i (lm acc) 1 (i:Nat) g1 g2 (by simp) (by omega);rw[sr32,Wj,show (1:Int) % 4294967296=1 by decide,show (1:Int) / 4294967296=0 by decide,Wm] at k;have ei:i64.wrap ((i:Int)+1)=((i+1:Nat):Int):=by rw[w64 (by omega) (by omega)];omega
   rw[ei] at k |-;have k2:=Zkf xs ys (i+1) (lm (acc++[1])) 0 ((i+1:Nat):Int) (by simp;omega) (by simp;omega) (by simp);have hll:(acc++[1]).length=i+1:=by simp[hl]
   rw[hll];exact Za.loop k (Za.loop_out k2 nofun)
 | succ r ih =>
  intro i acc c hi hl hu hc;have bx:=Zt hx i;have byy:=Zt hy i;have ei:i64.wrap ((i:Int)+1)=((i+1:Nat):Int):=by rw[w64 (by omega) (by omega)];omega
  have step:Za Yir Lt (Gc xs ys i (lm acc) c (i:Nat)) .norm (Gc xs ys (i+1) (lm (acc++[(c+xs.getD i 0+ys.getD i 0) % 4294967296])) ((c+xs.getD i 0+ys.getD i 0) / 4294967296) ((i+1:Nat):Int)):=by
   have wx:u64.wrap (xs.getD i 0)=xs.getD i 0:=by rw[Qw];omega
   have wy:u64.wrap (ys.getD i 0)=ys.getD i 0:=by rw[Qw];omega
   by_cases g1:i<xs.length <;> by_cases g2:i<ys.length
   ·have k:=Z0e xs ys i (lm acc) c (i:Nat) (by simp;omega) (by simp;omega) (by omega) (by omega) (by omega);have w1:u64.wrap (u64.wrap (c+xs.getD i 0)+ys.getD i 0)=c+xs.getD i 0+ys.getD i 0:=by rw[Qw,Qw];omega
    simp only[Int.toNat_natCast,wx,wy,w1,sr32,Wj,ei,Wm] at k;exact k
   ·have k:=Z0d xs ys i (lm acc) c (i:Nat) (by simp;omega) (by simp;omega) (by omega) (by omega);have hz:ys.getD i 0=0:=Qo (by omega);have w1:u64.wrap (c+xs.getD i 0)=c+xs.getD i 0+ys.getD i 0:=by rw[Qw,hz];omega
    simp only[Int.toNat_natCast,wx,w1,sr32,Wj,ei,Wm] at k;exact k
   ·have k:=Z0c xs ys i (lm acc) c (i:Nat) (by simp;omega) (by simp;omega) (by omega) (by omega);have hz:xs.getD i 0=0:=Qo (by omega);have w1:u64.wrap (c+ys.getD i 0)=c+xs.getD i 0+ys.getD i 0:=by rw[Qw,hz];omega
    simp only[Int.toNat_natCast,wy,w1,sr32,Wj,ei,Wm] at k;exact k
   ·omega
  obtain⟨zs,c',i',q1,q2,q3,q4⟩:=ih (i+1) (acc++[(c+xs.getD i 0+ys.getD i 0) % 4294967296]) ((c+xs.getD i 0+ys.getD i 0) / 4294967296) (by omega) (by simp[hl]) (G6 hu (by omega)) (by omega);refine⟨zs,c',i',q1,q2,?_,Za.loop step q4⟩;rw[q3,Kz,hl,Q3 xs i,Q3 ys i,Int.pow_succ];have hd:=Int.emod_add_mul_ediv (c+xs.getD i 0+ys.getD i 0) 4294967296;generalize (c+xs.getD i 0+ys.getD i 0) % 4294967296=m at *
  generalize (c+xs.getD i 0+ys.getD i 0) / 4294967296=d at *
  generalize (4294967296:Int)^i=p at *
  generalize Zj (xs.drop (i+1))=X at *
  generalize Zj (ys.drop (i+1))=Y at *
  have:c+(xs.getD i 0+4294967296*X)+(ys.getD i 0+4294967296*Y)=m+4294967296*(d+X+Y):=by omega
  rw[this];grind
theorem Zdy {xs ys:List Int} (hx:U32 xs) (hy:U32 ys) (h1:xs.length<1048576) (h2:ys.length<1048576):∃ zs,U32 zs/\Zj zs=Zj xs+Zj ys/\zs.length<=max xs.length ys.length+1/\Zc Yir 144 [.sl xs.length (lm xs),.sl ys.length (lm ys)] (.fresh 1 zs.length (lm zs)):=by
 obtain⟨zs,c',i',q1,q2,q3,q4⟩:=Zqp hx hy h1 h2 (max xs.length ys.length) 0 [] 0 (by omega) rfl (fun x hx=>by cases hx) (by omega);refine⟨zs,q1,by rw[q3];simp[Zj],q2,?_⟩;exact Zx1 xs ys _ _ _ _ q4
theorem Zqo {xs ys:List Int} (hx:U32 xs) (hy:U32 ys) (hl2:ys.length<=xs.length) (h1:xs.length<=1048576):∀ (r i:Nat) (acc:List Int) (c:Int),i+r=xs.length->acc.length=i->U32 acc->0<=c/\c<=1 ->
  ∃ (zs:List Int) (c' i':Int),U32 zs/\zs.length=xs.length/\0<=c'/\Zj zs-4294967296^xs.length*c'=Zj acc+4294967296^i*(Zj (xs.drop i)-Zj (ys.drop i)-c) /\
   Za Yir (.loop Zav) (B4 xs ys i (lm acc) c (i:Nat)) (.exit 0) (B4 xs ys zs.length (lm zs) c' i'):=by
 intro r;induction r with
 | zero =>
  intro i acc c hi hl hu hc;have e1:Zj (xs.drop i)=0:=J0 (by omega);have e2:Zj (ys.drop i)=0:=J0 (by omega);have hii:xs.length=i:=by omega
  refine⟨acc,c,i,hu,by omega,hc.1,by rw[e1,e2,hii];grind,?_⟩;rw[hl];exact Za.loop_out (Zz8 xs ys i (lm acc) c (i:Nat) (by simp;omega)) nofun
 | succ r ih =>
  intro i acc c hi hl hu hc;have bx:=Zt hx i;have byy:=Zt hy i;have ei:i64.wrap ((i:Int)+1)=((i+1:Nat):Int):=by rw[w64 (by omega) (by omega)];omega
  have step:Za Yir Zav (B4 xs ys i (lm acc) c (i:Nat)) .norm (B4 xs ys (i+1) (lm (acc++[(xs.getD i 0-ys.getD i 0-c) % 4294967296])) (-((xs.getD i 0-ys.getD i 0-c) / 4294967296)) ((i+1:Nat):Int)):=by
   have wx:u64.wrap (xs.getD i 0)=xs.getD i 0:=by rw[Qw];omega
   have wy:u64.wrap (ys.getD i 0)=ys.getD i 0:=by rw[Qw];omega
   by_cases g2:i<ys.length
   ·have k:=Z0a xs ys i (lm acc) c (i:Nat) (by simp;omega) (by simp;omega) (by omega) (by omega) (by omega);have w1:u64.wrap (u64.wrap (xs.getD i 0-ys.getD i 0)-c) % 4294967296=(xs.getD i 0-ys.getD i 0-c) % 4294967296:=by rw[Qw,Qw];omega
    have w2:u64.wrap (u64.wrap (xs.getD i 0-ys.getD i 0)-c) / 9223372036854775808 = -((xs.getD i 0-ys.getD i 0-c) / 4294967296):=by rw[Qw,Qw];omega
    simp only[Int.toNat_natCast,wx,wy,sr63,Wj,w1,w2,ei,Wm] at k;exact k
   ·have k:=Zz9 xs ys i (lm acc) c (i:Nat) (by simp;omega) (by simp;omega) (by omega) (by omega);have hz:ys.getD i 0=0:=Qo (by omega);have w1:u64.wrap (u64.wrap (xs.getD i 0-0)-c) % 4294967296=(xs.getD i 0-ys.getD i 0-c) % 4294967296:=by rw[Qw,Qw,hz];omega
    have w2:u64.wrap (u64.wrap (xs.getD i 0-0)-c) / 9223372036854775808 = -((xs.getD i 0-ys.getD i 0-c) / 4294967296):=by rw[Qw,Qw,hz];omega
    simp only[Int.toNat_natCast,wx,sr63,Wj,w1,w2,ei,Wm] at k;exact k
  obtain⟨zs,c',i',q1,q2,q0,q3,q4⟩:=ih (i+1) (acc++[(xs.getD i 0-ys.getD i 0-c) % 4294967296]) (-((xs.getD i 0-ys.getD i 0-c) / 4294967296)) (by omega) (by simp[hl]) (G6 hu (by omega)) (by omega);refine⟨zs,c',i',q1,q2,q0,?_,Za.loop step q4⟩;rw[q3,Kz,hl,Q3 xs i,Q3 ys i,Int.pow_succ];have hd:=Int.emod_add_mul_ediv (xs.getD i 0-ys.getD i 0-c) 4294967296;generalize (xs.getD i 0-ys.getD i 0-c) % 4294967296=m at *
  generalize (xs.getD i 0-ys.getD i 0-c) / 4294967296=d at *
  generalize (4294967296:Int)^i=p at *
  generalize Zj (xs.drop (i+1))=X at *
  generalize Zj (ys.drop (i+1))=Y at *
  have:xs.getD i 0+4294967296*X-(ys.getD i 0+4294967296*Y)-c=m+4294967296*(d+X-Y):=by omega
  rw[this];grind
theorem Nt {xs ys:List Int} (hx:U32 xs) (hy:U32 ys) (hl:ys.length<=xs.length) (hv:Zj ys<=Zj xs) (h1:xs.length<=1048576):∃ zs,U32 zs/\Zj zs=Zj xs-Zj ys/\zs.length=xs.length/\Zc Yir 145 [.sl xs.length (lm xs),.sl ys.length (lm ys)] (.fresh 1 zs.length (lm zs)):=by
 obtain⟨zs,c',i',q1,q2,q0,q3,q4⟩:=Zqo hx hy hl h1 xs.length 0 [] 0 (by omega) rfl (fun x hx=>by cases hx) (by omega);simp only[Zj,Int.pow_zero,List.drop_zero,Int.one_mul,Int.zero_add,Int.sub_zero] at q3;have hlt:=J2 q1;rw[q2] at hlt;have hp:=Qx xs.length;have hc:c'=0:=by
  generalize (4294967296:Int)^xs.length=p at *
  rcases Int.lt_or_le 0 c' with g | g
  ·have:p*1<=p*c':=Int.mul_le_mul_of_nonneg_left (by omega) (by omega);omega
  ·omega
 subst hc;refine⟨zs,q1,by simpa using q3,q2,?_⟩;exact Zx0 xs ys _ _ _ _ q4
theorem U8 {neg:Bool} {xs:List Int} (hu:U32 xs) (hN:xs.length<=1048576):Zc Yir 98 [.bool neg,.sl xs.length (lm xs)] (Uq (rv neg xs)):=En hu hN
theorem Ut {neg:Bool} {xs:List Int} (hu:U32 xs) (hN:xs.length<=1048576):Zc Yir 79 [.agg [.bool neg,.sl xs.length (lm xs)]] (.int .i64 (Xd (rv neg xs))):=by
 have hm:=J9 (Nat.le_trans hN (by decide));have hz:(Ze xs).length=0↔Zj xs=0:=by
  have:=Zv hu;rw[W5 hu,Q7];omega
 have hv:=Zv hu;by_cases h0:Zj xs=0
 ·have h:=Zia neg xs (by rw[beq_iff_eq];omega) hm;have e:Xd (rv neg xs)=0:=by unfold rv;rw[h0];cases neg <;> rfl
  rw[e];exact h
 ·cases neg with
  | true =>
   have h:=Zh9 true xs (by rw[beq_eq_false_iff_ne];omega) rfl hm;have e:Xd (rv true xs) = -1:=by simp only[rv,if_true,Xd]; (repeat' split) <;> omega
   rw[e];exact h
  | false =>
   have h:=Zh8 false xs (by rw[beq_eq_false_iff_ne];omega) rfl hm;have e:Xd (rv false xs)=1:=by simp only[rv,Bool.false_eq_true,if_false,Xd]; (repeat' split) <;> omega
   rw[e];exact h
theorem Zwa (neg:Bool) (xs:List Int):rv (!neg) xs = -(rv neg xs):=by unfold rv;cases neg <;> simp
theorem Mx {neg:Bool} {xs:List Int} (hu:U32 xs) (hN:xs.length<=1048576):Zc Yir 161 [.agg [.bool neg,.sl xs.length (lm xs)]] (Zi (-(rv neg xs))):=by
 have h:=U8 (neg := !neg) hu hN;rw[Zwa] at h;exact Zxt neg xs _ h
theorem L2 {neg:Bool} {xs:List Int} (hu:U32 xs) (hN:xs.length<=1048576):Zc Yir 97 [.agg [.bool neg,.sl xs.length (lm xs)]] (Zi (rv neg xs)):=Yrun97 neg xs _ (U8 hu hN)
theorem Zxc (na nb:Bool) (xs ys zs:List Int) (v:Int) (n1:Zc Yir 99 [.sl xs.length (lm xs)] (.fresh 1 ((Ze xs).length) (lm (Ze xs)))) (n2:Zc Yir 99 [.sl ys.length (lm ys)] (.fresh 1 ((Ze ys).length) (lm (Ze ys)))) (n3:Zc Yir 146 [.sl ((Ze xs).length) (lm (Ze xs)),.sl ((Ze ys).length) (lm (Ze ys))] (.fresh 1 zs.length (lm zs))) (n4:Zc Yir 98 [.bool (!(na==nb)),.sl zs.length (lm zs)] (Uq v)):Zc Yir 96 [.agg [.bool na,.sl xs.length (lm xs)],.agg [.bool nb,.sl ys.length (lm ys)]] (Zi v):=Zc.go (fn:=Yi96) Qy rfl 400 rfl [.r (.fresh 1 ((Ze xs).length) (lm (Ze xs))),.r (.fresh 1 ((Ze ys).length) (lm (Ze ys))),.r (.fresh 1 zs.length (lm zs)),.r (Uq v)] (ac n1 (ac n2 (ac n3 (ac n4 a0))))
theorem Zog (na nb:Bool) (xs ys zs:List Int) (v:Int) (c1:(na==nb)=true) (n1:Zc Yir 99 [.sl xs.length (lm xs)] (.fresh 1 ((Ze xs).length) (lm (Ze xs)))) (n2:Zc Yir 99 [.sl ys.length (lm ys)] (.fresh 1 ((Ze ys).length) (lm (Ze ys)))) (n3:Zc Yir 144 [.sl ((Ze xs).length) (lm (Ze xs)),.sl ((Ze ys).length) (lm (Ze ys))] (.fresh 1 zs.length (lm zs))) (n4:Zc Yir 98 [.bool na,.sl zs.length (lm zs)] (Uq v)):Zc Yir 95 [.agg [.bool na,.sl xs.length (lm xs)],.agg [.bool nb,.sl ys.length (lm ys)]] (Zi v):=Zc.go (fn:=Z3i) Qy rfl 400 rfl [.r (.fresh 1 ((Ze xs).length) (lm (Ze xs))),.r (.fresh 1 ((Ze ys).length) (lm (Ze ys))),.b true,.r (.fresh 1 zs.length (lm zs)),.r (Uq v)] (ac n1 (ac n2 (ac c1 (ac n3 (ac n4 a0)))))
theorem Zof (na nb:Bool) (xs ys zs:List Int) (v c:Int) (c1:(na==nb)=false) (c2:(decide (c>=0))=true) (n1:Zc Yir 99 [.sl xs.length (lm xs)] (.fresh 1 ((Ze xs).length) (lm (Ze xs)))) (n2:Zc Yir 99 [.sl ys.length (lm ys)] (.fresh 1 ((Ze ys).length) (lm (Ze ys)))) (n3:Zc Yir 134 [.sl ((Ze xs).length) (lm (Ze xs)),.sl ((Ze ys).length) (lm (Ze ys))] (.int .i64 c)) (n4:Zc Yir 145 [.sl ((Ze xs).length) (lm (Ze xs)),.sl ((Ze ys).length) (lm (Ze ys))] (.fresh 1 zs.length (lm zs))) (n5:Zc Yir 98 [.bool na,.sl zs.length (lm zs)] (Uq v)):Zc Yir 95 [.agg [.bool na,.sl xs.length (lm xs)],.agg [.bool nb,.sl ys.length (lm ys)]] (Zi v):=Zc.go (fn:=Z3i) Qy rfl 400 rfl [.r (.fresh 1 ((Ze xs).length) (lm (Ze xs))),.r (.fresh 1 ((Ze ys).length) (lm (Ze ys))),.b false,.r (.int .i64 c),.b true,.r (.fresh 1 zs.length (lm zs)),.r (Uq v)] (ac n1 (ac n2 (ac c1 (ac n3 (ac c2 (ac n4 (ac n5 a0)))))))
theorem Zoe (na nb:Bool) (xs ys zs:List Int) (v c:Int) (c1:(na==nb)=false) (c2:(decide (c>=0))=false) (n1:Zc Yir 99 [.sl xs.length (lm xs)] (.fresh 1 ((Ze xs).length) (lm (Ze xs)))) (n2:Zc Yir 99 [.sl ys.length (lm ys)] (.fresh 1 ((Ze ys).length) (lm (Ze ys)))) (n3:Zc Yir 134 [.sl ((Ze xs).length) (lm (Ze xs)),.sl ((Ze ys).length) (lm (Ze ys))] (.int .i64 c)) (n4:Zc Yir 145 [.sl ((Ze ys).length) (lm (Ze ys)),.sl ((Ze xs).length) (lm (Ze xs))] (.fresh 1 zs.length (lm zs))) (n5:Zc Yir 98 [.bool nb,.sl zs.length (lm zs)] (Uq v)):Zc Yir 95 [.agg [.bool na,.sl xs.length (lm xs)],.agg [.bool nb,.sl ys.length (lm ys)]] (Zi v):=Zc.go (fn:=Z3i) Qy rfl 400 rfl [.r (.fresh 1 ((Ze xs).length) (lm (Ze xs))),.r (.fresh 1 ((Ze ys).length) (lm (Ze ys))),.b false,.r (.int .i64 c),.b false,.r (.fresh 1 zs.length (lm zs)),.r (Uq v)] (ac n1 (ac n2 (ac c1 (ac n3 (ac c2 (ac n4 (ac n5 a0)))))))
theorem Zx6 (na nb:Bool) (xs ys:List Int) (v w:Int) (n1:Zc Yir 161 [.agg [.bool nb,.sl ys.length (lm ys)]] (Zi w)) (n2:Zc Yir 95 [.agg [.bool na,.sl xs.length (lm xs)],Zi w] (Zi v)):Zc Yir 129 [.agg [.bool na,.sl xs.length (lm xs)],.agg [.bool nb,.sl ys.length (lm ys)]] (Zi v):=Zc.go (fn:=Zld) Qy rfl 400 rfl [.r (Zi w),.r (Zi v)] (ac n1 (ac n2 a0))
theorem Zyj (neg:Bool) (xs:List Int) (n1:Zc Yir 99 [.sl xs.length (lm xs)] (.fresh 1 ((Ze xs).length) (lm (Ze xs)))):Zc Yir 107 [.agg [.bool neg,.sl xs.length (lm xs)]] (.bool (decide ((((Ze xs).length:Nat):Int)>256))):=Zc.go (fn:=Zlo) Qy rfl 400 rfl [.r (.fresh 1 ((Ze xs).length) (lm (Ze xs)))] (ac n1 a0)
theorem Sl (neg:Bool) (xs:List Int):rv neg (Ze xs)=rv neg xs:=by unfold rv;rw [J4]
theorem Ac {xs:List Int} (h:U32 xs):U32 (Ze xs):=(Xr h).1
theorem rv_mul (na nb:Bool) (xs ys zs:List Int) (h:Zj zs=Zj xs*Zj ys):rv (!(na==nb)) zs=rv na xs*rv nb ys:=by
 unfold rv;rw[h];generalize Zj xs=X;generalize Zj ys=Y;cases na <;> cases nb <;> simp <;> grind
theorem Dd {na nb:Bool} {xs ys:List Int} (hx:U32 xs) (hy:U32 ys) (hN:xs.length+ys.length<=1048576):Zc Yir 96 [.agg [.bool na,.sl xs.length (lm xs)],.agg [.bool nb,.sl ys.length (lm ys)]] (Zi (rv na xs*rv nb ys)):=by
 have t1:=Qb xs;have t2:=Qb ys;obtain⟨zs,z1,z2,z3,z4⟩:=Zdj (Ac hx) (Ac hy) (by omega);have hk:=U8 (neg := !(na==nb)) z2 (by omega);rw[rv_mul na nb (Ze xs) (Ze ys) zs z3,Sl,Sl] at hk;exact Zxc na nb xs ys zs _ (J9 (by omega)) (J9 (by omega)) z4 hk
theorem A5 {na nb:Bool} {xs ys:List Int} (hx:U32 xs) (hy:U32 ys) (h1:xs.length<1048576) (h2:ys.length<1048576):Zc Yir 95 [.agg [.bool na,.sl xs.length (lm xs)],.agg [.bool nb,.sl ys.length (lm ys)]] (Zi (rv na xs+rv nb ys)):=by
 have t1:=Qb xs;have t2:=Qb ys;have c1:=Xr hx;have c2:=Xr hy;have m1:=J9 (xs:=xs) (by omega);have m2:=J9 (xs:=ys) (by omega);have hcmp:=Dz c1 c2 (by omega);by_cases hn:na=nb
 ·subst hn;obtain⟨zs,z1,z2,z3,z4⟩:=Zdy c1.1 c2.1 (by omega) (by omega);have hk:=U8 (neg:=na) z1 (by omega);have e:rv na zs=rv na xs+rv na ys:=by
   unfold rv;rw[z2,J4,J4];cases na <;> simp;omega
  rw[e] at hk;exact Zog na na xs ys zs _ (by simp) m1 m2 z4 hk
 ·have hb:nb = !na:=by cases na <;> cases nb <;> simp at hn |-
  by_cases hc:U0 (Zj (Ze xs)) (Zj (Ze ys))>=0
  ·have hle:Zj (Ze ys)<=Zj (Ze xs):=by unfold U0 at hc;split at hc <;> (try split at hc) <;> omega
   have hlen:(Ze ys).length<=(Ze xs).length:=Hf c2 (Int.lt_of_le_of_lt hle (J2 c1.1));obtain⟨zs,z1,z2,z3,z4⟩:=Nt c1.1 c2.1 hlen hle (by omega);have hk:=U8 (neg:=na) z1 (by omega);have e:rv na zs=rv na xs+rv nb ys:=by
    unfold rv;rw[z2,J4,J4,hb];cases na <;> simp <;> omega
   rw[e] at hk;exact Zof na nb xs ys zs _ _ (by rw[hb];cases na <;> rfl) (by simpa using hc) m1 m2 hcmp z4 hk
  ·have hle:Zj (Ze xs)<=Zj (Ze ys):=by unfold U0 at hc;split at hc <;> (try split at hc) <;> omega
   have hlen:(Ze xs).length<=(Ze ys).length:=Hf c1 (Int.lt_of_le_of_lt hle (J2 c2.1));obtain⟨zs,z1,z2,z3,z4⟩:=Nt c2.1 c1.1 hlen hle (by omega);have hk:=U8 (neg:=nb) z1 (by omega);have e:rv nb zs=rv na xs+rv nb ys:=by
    unfold rv;rw[z2,J4,J4,hb];cases na <;> simp <;> omega
   rw[e] at hk;exact Zoe na nb xs ys zs _ _ (by rw[hb];cases na <;> rfl) (by simpa using hc) m1 m2 hcmp z4 hk
theorem Nv {na nb:Bool} {xs ys:List Int} (hx:U32 xs) (hy:U32 ys) (h1:xs.length<1048576) (h2:ys.length<1048576):Zc Yir 129 [.agg [.bool na,.sl xs.length (lm xs)],.agg [.bool nb,.sl ys.length (lm ys)]] (Zi (rv na xs-rv nb ys)):=by
 have hn:=Mx (neg:=nb) hy (by omega);have hl:(Zb (-(rv nb ys)).natAbs).length<1048576:=by rw[Int.natAbs_neg];exact Nat.lt_of_le_of_lt (Ul hy) h2
 have h:=A5 (na:=na) (nb:=decide (-(rv nb ys)<0)) hx (Qk (-(rv nb ys)).natAbs) h1 hl;rw[Vh] at h;exact Zx6 na nb xs ys _ _ hn h
theorem Zc1 {neg:Bool} {xs:List Int} (hN:xs.length<=1048576):Zc Yir 107 [.agg [.bool neg,.sl xs.length (lm xs)]] (.bool (decide (256<(Ze xs).length))):=by
 have h:=Zyj neg xs (J9 (Nat.le_trans hN (by decide)));have e:decide ((((Ze xs).length:Nat):Int)>256)=decide (256<(Ze xs).length):=by rw[decide_eq_decide];omega
 rw[e] at h;exact h
def TBD:J8:=TBC
theorem Hj:Q9 Yir TBD:=Qy
end Go.Proofs.YtopjpgejefileaaGreat

namespace Go.Proofs.YtopjpgejefileaaGreat
open Go.IntKind (i64 u64 u32)
open Go.Ai
theorem or64 {q c:Int} {s:Nat} (hq:0<=q) (hs:q*2^s<18446744073709551616) (hs':s<=64) (hc:0<=c/\c<2^s) :
  u64.wrap ((BitVec.ofInt (IntKind.bits .u64) (q*2^s) ||| BitVec.ofInt (IntKind.bits .u64) c).toNat)=q*2^s+c:=by
 obtain⟨a,rfl⟩:∃ a:Nat,q=a:=⟨q.toNat,by omega⟩;obtain⟨b,rfl⟩:∃ b:Nat,c=b:=⟨c.toNat,by omega⟩;have e1:(a:Int)*2^s=((a*2^s:Nat):Int):=by rw[Int.natCast_mul,Int.natCast_pow];rfl
 have hb:b<2^s:=by
  have:(b:Int)<((2^s:Nat):Int):=by rw[Int.natCast_pow];exact hc.2
  omega
 have h64:2^s<=2^64:=Nat.pow_le_pow_right (by decide) hs';have e64:2^64=18446744073709551616:=by decide
 rw[e1] at hs |-;show u64.wrap ((BitVec.ofInt 64 ((a*2^s:Nat):Int) ||| BitVec.ofInt 64 (b:Int)).toNat:Int)=_;rw[BitVec.toNat_or,BitVec.ofInt_natCast,BitVec.ofInt_natCast,BitVec.toNat_ofNat,BitVec.toNat_ofNat,Nat.mod_eq_of_lt (by omega),Nat.mod_eq_of_lt (by omega),Nat.mul_comm a,<- Nat.two_pow_add_eq_or_of_lt hb,Nat.mul_comm (2^s) a,Qw];have hsum:a*2^s+b<18446744073709551616:=by
  have hd:a*2^s+2^s<=2^64:=by
   have hk:2^64=2^(64-s)*2^s:=by rw[<- Nat.pow_add];congr 1;omega
   have h1:a<2^(64-s):=by
    rcases Nat.lt_or_ge a (2^(64-s)) with g | g
    ·exact g
    ·have:=Nat.mul_le_mul_right (2^s) g;omega
   have h2:=Nat.mul_le_mul_right (2^s) (show a+1<=2^(64-s) by omega);rw[Nat.add_mul,Nat.one_mul] at h2;omega
  omega
 omega
theorem Qe (n:Nat):(0:Int)<2^n:=Int.pow_pos (by decide)
theorem Vp {a b:Nat} (h:a<=b):(2:Int)^a<=2^b:=by
 have h1:2^a<=2^b:=Nat.pow_le_pow_right (by decide) h;have e:∀ n:Nat,(2:Int)^n=((2^n:Nat):Int):=fun n=>by rw[Int.natCast_pow];rfl
 rw[e,e];omega
theorem Fd (n:Nat):(4294967296:Int)^n=2^(32*n):=by
 rw[Int.pow_mul];rfl
theorem V1 (n:Nat):(2:Int)^n=4294967296^(n / 32)*2^(n % 32):=by
 rw[Fd,<- Int.pow_add,Nat.div_add_mod]
end Go.Proofs.YtopjpgejefileaaGreat

namespace Go.Proofs.YtopjpgejefileaaGreat
open Go.IntKind (i64 u64 u32)
open Go.Ai
set_option maxRecDepth 100000
def Zvo (neg:Bool) (xs:List Int) (n:Nat) (cs:List AV) (c:Int) (s:Int) (ms:List Int) (i:Int):Zk:=(dds 2 (.box [.bool neg,.sl xs.length (lm xs)]::(dds 1 (.box [.bool false,.sl 0 []]::(.own 1 n cs::(.val (.int .u32 c)::(.val (.int .u64 s)::(.val (.sl ms.length (lm ms))::(.val (.int .i64 i)::(dds 41 []))))))))))
theorem Yk84_1 (neg:Bool) (xs:List Int) (n:Nat) (cs:List AV) (c:Int) (s:Int) (ms:List Int) (i:Int)  (c1:(decide (i<(ms.length:Int)))=true) (n1:0<=i/\i<(ms.length:Int)) (n2:¬ s<0) (n3:n+1<=35184372088832):Za Yir Yc84 (Zvo neg xs n cs c s ms i) .norm (Zvo neg xs (n+1) (cs++([.int .u32 (u32.wrap (u64.wrap ((BitVec.ofInt (IntKind.bits .u64) (u64.wrap ((u64.wrap (ms.getD (Int.toNat i) 0))*2^(min (Int.toNat s) (IntKind.bits .u64)))) ||| BitVec.ofInt (IntKind.bits .u64) (u64.wrap c)).toNat)))]:List AV)) (u32.wrap (Int.fdiv (u64.wrap ((BitVec.ofInt (IntKind.bits .u64) (u64.wrap ((u64.wrap (ms.getD (Int.toNat i) 0))*2^(min (Int.toNat s) (IntKind.bits .u64)))) ||| BitVec.ofInt (IntKind.bits .u64) (u64.wrap c)).toNat)) (2^(min (Int.toNat 32) (IntKind.bits .u64))))) s ms (i64.wrap (i+1))):=(Za.go Hj 400 [.b true,.v (.int .u32 (ms.getD (Int.toNat i) 0))] [2,4,5,6,7,8,9] (ac c1 (ac n1 (ac (Zu n1) (ac n2 (ac (show List.length ([.int .u32 (u32.wrap (u64.wrap ((BitVec.ofInt (IntKind.bits .u64) (u64.wrap ((u64.wrap (ms.getD (Int.toNat i) 0))*2^(min (Int.toNat s) (IntKind.bits .u64)))) ||| BitVec.ofInt (IntKind.bits .u64) (u64.wrap c)).toNat)))]:List AV)=1*1 from rfl) (ac n3 (ac (show ¬ (32:Int)<0 from (by decide)) a0))))))))
theorem Yk84_2 (neg:Bool) (xs:List Int) (n:Nat) (cs:List AV) (c:Int) (s:Int) (ms:List Int) (i:Int)  (c1:(decide (i<(ms.length:Int)))=false):Za Yir Yc84 (Zvo neg xs n cs c s ms i) (.exit 0) (Zvo neg xs n cs c s ms i):=(Za.go Hj 400 [.b false] [2,4,5,6,7,8,9] (ac c1 a0))
theorem Yrun84 (neg:Bool) (xs:List Int) (sh:Int) (n:Nat) (cs:List AV) (c i v:Int) (n1:0<=(i64.wrap (Int.tdiv sh 32))/\(i64.wrap (Int.tdiv sh 32))<=1048576) (n2:Zc Yir 99 [.sl xs.length (lm xs)] (.fresh 1 ((Ze xs).length) (lm (Ze xs)))) (hl3:Za Yir (.loop Yc84) (Zvo neg xs (Int.toNat (i64.wrap (Int.tdiv sh 32))) (Ju [.int .u32 0] (Int.toNat (i64.wrap (Int.tdiv sh 32)))) 0 (u64.wrap (Int.tmod sh 32)) (Ze xs) 0) (.exit 0) (Zvo neg xs n cs c (u64.wrap (Int.tmod sh 32)) (Ze xs) i)) (n4:n+1<=35184372088832) (n5:Zc Yir 98 [.bool neg,.sl (n+1) (cs++([.int .u32 c]:List AV))] (Uq v)):Zc Yir 84 [.agg [.bool neg,.sl xs.length (lm xs)],.int .i64 sh] (Uq v):=Zc.of_bodyW (fn:=Yi84) (s:=(dds 4 (.bxl 50::(dds 45 (.agn (.st (decide (v<0))) 1 ((Zb (Int.natAbs v)).length) (lm (Zb (Int.natAbs v)))::[]))))) (ex := .ret) rfl rfl (Za.asc (Za.asc (Za.asc (Za.asc (Za.csi (Za.seq (Za.go Hj 400 [.r (.fresh 1 ((Ze xs).length) (lm (Ze xs)))] [2,4,5,6,7,8,9] (ac (show ¬ (32:Int)=0 from (by decide)) (ac n1 (ac (show ¬ (32:Int)=0 from (by decide)) (ac n2 a0))))) (Za.seq (Za.block hl3) (Za.go Hj 400 [.r (Uq v)] [4,50] (ac (show List.length ([.int .u32 c]:List AV)=1*1 from rfl) (ac n4 (ac n5 a0))))))))))) nofun rfl
theorem Zcw {x c:Int} {s:Nat} (hx:0<=x/\x<4294967296) (hs:s<32) (hc:0<=c/\c<2^s) :
  u64.wrap ((BitVec.ofInt (IntKind.bits .u64) (u64.wrap ((u64.wrap x)*2^(min (Int.toNat (s:Int)) (IntKind.bits .u64)))) ||| BitVec.ofInt (IntKind.bits .u64) (u64.wrap c)).toNat)=x*2^s+c
  /\ 0<=(x*2^s+c) / 4294967296/\(x*2^s+c) / 4294967296<2^s/\(2:Int)^s<=2147483648:=by
 have hp:=Qe s;have hp2:(2:Int)^s<=2147483648:=Vp (show s<=31 by omega);have hm:x*2^s<=4294967295*2^s:=Int.mul_le_mul_of_nonneg_right (by omega) (by omega);have hm0:0<=x*2^s:=Int.mul_nonneg hx.1 (by omega);have hmin:min (Int.toNat (s:Int)) (IntKind.bits .u64)=s:=by
  rw[Int.toNat_natCast];show min s 64=s;omega
 have w1:u64.wrap x=x:=by rw[Qw];omega
 have w2:u64.wrap (x*2^s)=x*2^s:=by rw[Qw];omega
 have w3:u64.wrap c=c:=by rw[Qw];omega
 refine⟨?_,by omega,by omega,hp2⟩;rw[hmin,w1,w2,w3];exact or64 hx.1 (by omega) (by omega) hc
theorem Zyn {neg:Bool} {xs ms pre:List Int} (hu:U32 ms) {s:Nat} (hs:s<32) (hN:pre.length+ms.length<=1048576):∀ (r i:Nat) (acc:List Int) (c:Int),i+r=ms.length->acc.length=i->U32 acc->0<=c/\c<2^s ->
  ∃ (zs:List Int) (c':Int),U32 zs/\zs.length=ms.length/\(0<=c'/\c'<2^s)/\Zj zs+4294967296^ms.length*c'=Zj acc+4294967296^i*(c+2^s*Zj (ms.drop i)) /\
   Za Yir (.loop Yc84) (Zvo neg xs (pre.length+i) (lm (pre++acc)) c (s:Nat) ms (i:Nat)) (.exit 0) (Zvo neg xs (pre.length+ms.length) (lm (pre++zs)) c' (s:Nat) ms (ms.length:Nat)):=by
 intro r;induction r with
 | zero =>
  intro i acc c hi hl hacc hc;have e1:Zj (ms.drop i)=0:=J0 (by omega);have hi':i=ms.length:=by omega
  refine⟨acc,c,hacc,by omega,hc,by rw[e1,hi'];simp,?_⟩;rw[hi'];exact Za.loop_out (Yk84_2 neg xs _ _ c (s:Nat) ms (ms.length:Nat) (by simp)) nofun
 | succ r ih =>
  intro i acc c hi hl hacc hc;have bm:=Zt hu i;obtain⟨w1,w2,w3,w4⟩:=Zcw bm hs hc;have ei:i64.wrap ((i:Int)+1)=((i+1:Nat):Int):=by rw[w64 (by omega) (by omega)];omega
  have k:=Yk84_1 neg xs (pre.length+i) (lm (pre++acc)) c (s:Nat) ms (i:Nat) (by simp;omega) (by omega) (by omega) (by omega);have wd:u32.wrap ((ms.getD i 0*2^s+c) / 4294967296)=(ms.getD i 0*2^s+c) / 4294967296:=by rw[Wj];omega
  simp only[Int.toNat_natCast i,w1,sr32,wd,Wj (ms.getD i 0*2^s+c),ei,Wm,List.append_assoc] at k;obtain⟨zs,c',q1,q2,q3,q4,q5⟩:=ih (i+1) (acc++[(ms.getD i 0*2^s+c) % 4294967296]) ((ms.getD i 0*2^s+c) / 4294967296) (by omega) (by simp[hl]) (G6 hacc (by omega)) ⟨w2,w3⟩;refine⟨zs,c',q1,q2,q3,?_,Za.loop k q5⟩;rw[q4,Kz,hl,Q3 ms i,Int.pow_succ];have hd:=Int.emod_add_mul_ediv (ms.getD i 0*2^s+c) 4294967296;generalize (ms.getD i 0*2^s+c) % 4294967296=m at *
  generalize (ms.getD i 0*2^s+c) / 4294967296=d at *
  generalize (4294967296:Int)^i=p at *
  generalize Zj (ms.drop (i+1))=X at *
  generalize (2:Int)^s=T at *
  generalize ms.getD i 0=y at *
  have:c+T*(y+4294967296*X)=m+4294967296*(d+T*X):=by
   have:c+T*(y+4294967296*X)=(y*T+c)+4294967296*(T*X):=by grind
   omega
  rw[this];grind
theorem Zbk {neg:Bool} {xs ys:List Int} {t:Int} (h:Zj ys=t*Zj xs):rv neg ys=rv neg xs*t:=by
 unfold rv;rw[h];generalize Zj xs=X;cases neg <;> simp <;> grind
theorem Mu {neg:Bool} {xs:List Int} (hu:U32 xs) (n:Nat) (hN:n / 32+xs.length+1<=1048576):Zc Yir 84 [.agg [.bool neg,.sl xs.length (lm xs)],.int .i64 (n:Nat)] (Uq (rv neg xs*2^n)):=by
 have t1:=Qb xs;have e1:i64.wrap (Int.tdiv (n:Int) 32)=((n / 32:Nat):Int):=by
  rw[Int.tdiv_eq_ediv_of_nonneg (by omega),w64 (by omega) (by omega)];omega
 have e2:u64.wrap (Int.tmod (n:Int) 32)=((n % 32:Nat):Int):=by
  rw[Int.tmod_eq_emod_of_nonneg (by omega),Qw];omega
 obtain⟨zs,c',q1,q2,q3,q4,q5⟩:=Zyn (neg:=neg) (xs:=xs) (pre:=List.replicate (n / 32) 0) (Ac hu) (s:=n % 32) (by omega) (by simp;omega) (Ze xs).length 0 [] 0 (by omega) rfl (fun x hx=>by cases hx) ⟨by omega,Qe _⟩;have w4:(2:Int)^(n % 32)<=2147483648:=Vp (show n % 32<=31 by omega);simp only[List.length_replicate,List.append_nil,Nat.add_zero,Zj,Int.pow_zero,List.drop_zero,Int.one_mul,Int.zero_add] at q4 q5;have huz:U32 (List.replicate (n / 32) 0++zs++[c']):=by
  refine G6 ?_ (by omega);intro x hx;rcases List.mem_append.1 hx with g | g
  ·exact Xk _ x g
  ·exact q1 x g
 have hlen:(List.replicate (n / 32) 0++zs++[c']).length=n / 32+(Ze xs).length+1:=by simp[q2];omega
 have hk:=U8 (neg:=neg) huz (by omega);have hval:Zj (List.replicate (n / 32) 0++zs++[c'])=2^n*Zj xs:=by
  rw[Kz,Uf,Xe,V1 n,List.length_append,List.length_replicate,Int.pow_add,q2];rw[J4] at q4;generalize (4294967296:Int)^(n / 32)=p at *
  generalize (4294967296:Int)^(Ze xs).length=q at *
  generalize (2:Int)^(n % 32)=T at *
  generalize Zj xs=X at *
  generalize Zj zs=Z at *
  grind
 rw[Zbk hval,hlen] at hk;refine Yrun84 neg xs (n:Nat) (n / 32+(Ze xs).length) (lm (List.replicate (n / 32) 0++zs)) c' ((Ze xs).length:Nat) _ (by rw[e1];omega) (J9 (by omega)) (by rw[e1,e2,Int.toNat_natCast,Xz];exact q5) (by omega) (by rw[Wm];exact hk)
def TBE:J8:=TBD
theorem Zm:Q9 Yir TBE:=Hj
end Go.Proofs.YtopjpgejefileaaGreat

namespace Go.Proofs.YtopjpgejefileaaGreat
open Go.IntKind (i64 u64 u32)
open Go.Ai
set_option maxRecDepth 100000
def TQ0:J8:=[]
theorem Qp:Q9 Yir TQ0:=Q9.nil _
def B5 (neg:Bool) (N:Nat) (cs:List AV) (n:Int):Zk:=(dds 1 (.box [.bool neg,.sl N cs]::(.val (.bool false)::(.own 1 0 []::(.val (.int .i64 n)::(dds 26 []))))))
theorem Z0h (neg:Bool) (N:Nat) (cs:List AV) (n:Int) (x:Int) (c1:(decide (n>0))=true) (c2:(x==0)=true) (n1:0<=(i64.wrap (n-1))/\(i64.wrap (n-1))<(N:Int)) (n2:Qn (List.drop (Int.toNat (i64.wrap (n-1))*1) cs) 0 1 true=some (.int .u32 x)):Za Yir Zaw (B5 neg N cs n) .norm (B5 neg N cs (i64.wrap (n-1))):=Za.go Qp 300 [.b true,.v (.int .u32 x),.b true] [1,2,3,4] (ac c1 (ac n1 (ac n2 (ac c2 a0)))) (by kernel_rfl)
theorem Z0g (neg:Bool) (N:Nat) (cs:List AV) (n:Int) (x:Int) (c1:(decide (n>0))=true) (c2:(x==0)=false) (n1:0<=(i64.wrap (n-1))/\(i64.wrap (n-1))<(N:Int)) (n2:Qn (List.drop (Int.toNat (i64.wrap (n-1))*1) cs) 0 1 true=some (.int .u32 x)):Za Yir Zaw (B5 neg N cs n) (.exit 0) (B5 neg N cs n):=Za.go Qp 300 [.b true,.v (.int .u32 x),.b false] [1,2,3,4] (ac c1 (ac n1 (ac n2 (ac c2 a0)))) (by kernel_rfl)
theorem Z0f (neg:Bool) (N:Nat) (cs:List AV) (n:Int) (c1:(decide (n>0))=false):Za Yir Zaw (B5 neg N cs n) (.exit 0) (B5 neg N cs n):=Za.go Qp 300 [.b false,.b false] [1,2,3,4] (ac c1 (ac (show false=false from rfl) a0)) (by kernel_rfl)
theorem Zcm (neg:Bool) (xs:List Int) (hN:xs.length<=1048576):∀ m,m<=xs.length->Za Yir (.loop Zaw) (B5 neg xs.length (lm xs) (m:Int)) (.exit 0) (B5 neg xs.length (lm xs) ((Zz xs m:Nat):Int)):=by
 intro m;induction m with
 | zero =>
  intro _;exact Za.loop_out (Z0f neg xs.length (lm xs) ((0:Nat):Int) (by simp)) nofun
 | succ m ih =>
  intro hm;have e1:i64.wrap (((m+1:Nat):Int)-1)=(m:Int):=by rw[w64 (by omega) (by omega)];omega
  have hx:=J6 (xs:=xs) (i:=m) (by omega);simp only[Zz];by_cases h0:xs.getD m 0=0
  ·rw[if_pos h0];have h1:=Z0h neg xs.length (lm xs) ((m+1:Nat):Int) (xs.getD m 0) (by simp) (by rw[h0];rfl) (by rw[e1];omega) (by rw[e1,Int.toNat_natCast];exact hx);rw[e1] at h1;exact Za.loop h1 (ih (by omega))
  ·rw[if_neg h0];exact Za.loop_out (Z0g neg xs.length (lm xs) ((m+1:Nat):Int) (xs.getD m 0) (by simp) (by simpa using h0) (by rw[e1];omega) (by rw[e1,Int.toNat_natCast];exact hx)) nofun
theorem Rq (xs:List Int) (hl:Za Yir (.loop Zaw) (B5 true xs.length (lm xs) (xs.length:Int)) (.exit 0) (B5 true xs.length (lm xs) ((Zz xs xs.length:Nat):Int))) (hsc:0<=(Int.toNat ((Zz xs xs.length:Nat):Int))/\(Int.toNat ((Zz xs xs.length:Nat):Int))<=xs.length/\xs.length<=xs.length/\(false=true->true=true)):Zc Yir 143 [.agg [.bool true,.sl xs.length (lm xs)]] (.tup [.bool (decide (((Zz xs xs.length:Nat):Int)>0)),.sl ((Int.toNat ((Zz xs xs.length:Nat):Int))-0) (List.take (((Int.toNat ((Zz xs xs.length:Nat):Int))-0)*1) (List.drop (0*1) (lm xs)))]):=Zc.of_bodyW (fn:=Zeu) (s:=(dds 1 (.box [.bool true,.sl xs.length (lm xs)]::(.val (.bool (decide (((Zz xs xs.length:Nat):Int)>0)))::(.val (.sl ((Int.toNat ((Zz xs xs.length:Nat):Int))-0) (List.take (((Int.toNat ((Zz xs xs.length:Nat):Int))-0)*1) (List.drop (0*1) (lm xs))))::(.val (.int .i64 ((Zz xs xs.length:Nat):Int))::(dds 16 (.ptr 1 0::(.val (.bool true)::(.val (.bool true)::(.val (.int .i64 ((Zz xs xs.length:Nat):Int))::(.val (.bool (decide (((Zz xs xs.length:Nat):Int)>0)))::(.val (.bool (decide (((Zz xs xs.length:Nat):Int)>0)))::(.ptr 1 1::(.val (.sl xs.length (lm xs))::(.val (.int .i64 ((Zz xs xs.length:Nat):Int))::(.val (.sl ((Int.toNat ((Zz xs xs.length:Nat):Int))-0) (List.take (((Int.toNat ((Zz xs xs.length:Nat):Int))-0)*1) (List.drop (0*1) (lm xs))))::[]))))))))))))))))) (ex := .ret) rfl rfl (Za.seq (Za.go (t:=(.val (.agg [.bool true,.sl xs.length (lm xs)])::(.box [.bool true,.sl xs.length (lm xs)]::(.val (.bool false)::(.own 1 0 []::(dds 27 [])))))) Qp 300 [] [0,1,2,3] a0) (Za.seq (Za.go (t:=(dds 1 (.box [.bool true,.sl xs.length (lm xs)]::(.val (.bool false)::(.own 1 0 []::(vi (xs.length:Int)::(dds 26 []))))))) Qp 300 [] [1,2,3,4] a0) (Za.seq (Za.block hl) (Za.go (t:=(dds 1 (.box [.bool true,.sl xs.length (lm xs)]::(.val (.bool (decide (((Zz xs xs.length:Nat):Int)>0)))::(.val (.sl ((Int.toNat ((Zz xs xs.length:Nat):Int))-0) (List.take (((Int.toNat ((Zz xs xs.length:Nat):Int))-0)*1) (List.drop (0*1) (lm xs))))::(vi ((Zz xs xs.length:Nat):Int)::(dds 16 (.ptr 1 0::(.val (.bool true)::(.val (.bool true)::(vi ((Zz xs xs.length:Nat):Int)::(.val (.bool (decide (((Zz xs xs.length:Nat):Int)>0)))::(.val (.bool (decide (((Zz xs xs.length:Nat):Int)>0)))::(.ptr 1 1::(vl xs::(vi ((Zz xs xs.length:Nat):Int)::(.val (.sl ((Int.toNat ((Zz xs xs.length:Nat):Int))-0) (List.take (((Int.toNat ((Zz xs xs.length:Nat):Int))-0)*1) (List.drop (0*1) (lm xs))))::[]))))))))))))))))) (ex := .ret) Qp 300 [.b true] [1,2,3,4,21,22,23,24,25,26,27,28,29,30] (ac (show true=true from rfl) (ac (show 0<=((Zz xs xs.length:Nat):Int) from (Int.natCast_nonneg _)) (ac (show 0<=(Int.toNat ((Zz xs xs.length:Nat):Int))/\(Int.toNat ((Zz xs xs.length:Nat):Int))<=xs.length/\xs.length<=xs.length/\(false=true->true=true) from hsc) a0))))))) nofun rfl
theorem Lp (xs:List Int) (hl:Za Yir (.loop Zaw) (B5 false xs.length (lm xs) (xs.length:Int)) (.exit 0) (B5 false xs.length (lm xs) ((Zz xs xs.length:Nat):Int))) (hsc:0<=(Int.toNat ((Zz xs xs.length:Nat):Int))/\(Int.toNat ((Zz xs xs.length:Nat):Int))<=xs.length/\xs.length<=xs.length/\(false=true->true=true)):Zc Yir 143 [.agg [.bool false,.sl xs.length (lm xs)]] (.tup [.bool false,.sl ((Int.toNat ((Zz xs xs.length:Nat):Int))-0) (List.take (((Int.toNat ((Zz xs xs.length:Nat):Int))-0)*1) (List.drop (0*1) (lm xs)))]):=Zc.of_bodyW (fn:=Zeu) (s:=(dds 1 (.box [.bool false,.sl xs.length (lm xs)]::(.val (.bool false)::(.val (.sl ((Int.toNat ((Zz xs xs.length:Nat):Int))-0) (List.take (((Int.toNat ((Zz xs xs.length:Nat):Int))-0)*1) (List.drop (0*1) (lm xs))))::(.val (.int .i64 ((Zz xs xs.length:Nat):Int))::(dds 16 (.ptr 1 0::(.val (.bool false)::(.val (.bool false)::(.val (.undef)::(.val (.undef)::(.val (.bool false)::(.ptr 1 1::(.val (.sl xs.length (lm xs))::(.val (.int .i64 ((Zz xs xs.length:Nat):Int))::(.val (.sl ((Int.toNat ((Zz xs xs.length:Nat):Int))-0) (List.take (((Int.toNat ((Zz xs xs.length:Nat):Int))-0)*1) (List.drop (0*1) (lm xs))))::[]))))))))))))))))) (ex := .ret) rfl rfl (Za.seq (Za.go (t:=(.val (.agg [.bool false,.sl xs.length (lm xs)])::(.box [.bool false,.sl xs.length (lm xs)]::(.val (.bool false)::(.own 1 0 []::(dds 27 [])))))) Qp 300 [] [0,1,2,3] a0) (Za.seq (Za.go (t:=(dds 1 (.box [.bool false,.sl xs.length (lm xs)]::(.val (.bool false)::(.own 1 0 []::(vi (xs.length:Int)::(dds 26 []))))))) Qp 300 [] [1,2,3,4] a0) (Za.seq (Za.block hl) (Za.go (t:=(dds 1 (.box [.bool false,.sl xs.length (lm xs)]::(.val (.bool false)::(.val (.sl ((Int.toNat ((Zz xs xs.length:Nat):Int))-0) (List.take (((Int.toNat ((Zz xs xs.length:Nat):Int))-0)*1) (List.drop (0*1) (lm xs))))::(vi ((Zz xs xs.length:Nat):Int)::(dds 16 (.ptr 1 0::(.val (.bool false)::(.val (.bool false)::(.val (.undef)::(.val (.undef)::(.val (.bool false)::(.ptr 1 1::(vl xs::(vi ((Zz xs xs.length:Nat):Int)::(.val (.sl ((Int.toNat ((Zz xs xs.length:Nat):Int))-0) (List.take (((Int.toNat ((Zz xs xs.length:Nat):Int))-0)*1) (List.drop (0*1) (lm xs))))::[]))))))))))))))))) (ex := .ret) Qp 300 [.b false] [1,2,3,4,21,22,23,24,25,26,27,28,29,30] (ac (show false=false from rfl) (ac (show 0<=((Zz xs xs.length:Nat):Int) from (Int.natCast_nonneg _)) (ac (show 0<=(Int.toNat ((Zz xs xs.length:Nat):Int))/\(Int.toNat ((Zz xs xs.length:Nat):Int))<=xs.length/\xs.length<=xs.length/\(false=true->true=true) from hsc) a0))))))) nofun rfl
theorem Zfe (xs:List Int):(Int.toNat ((Zz xs xs.length:Nat):Int)-0)=(Ze xs).length/\(List.take ((Int.toNat ((Zz xs xs.length:Nat):Int)-0)*1) (List.drop (0*1) (lm xs)))=lm (Ze xs)/\(0<=(Int.toNat ((Zz xs xs.length:Nat):Int))/\(Int.toNat ((Zz xs xs.length:Nat):Int))<=xs.length/\xs.length<=xs.length/\(false=true->true=true)):=by
 have hle:=V4 xs xs.length;rw[Int.toNat_natCast];refine⟨by simp[Ze];omega,by simp[lm,Ze,List.map_take],by omega,hle,Nat.le_refl _,fun h=>by cases h⟩
theorem Jl {neg:Bool} {xs:List Int} (hu:U32 xs) (hN:xs.length<=1048576):Zc Yir 143 [.agg [.bool neg,.sl xs.length (lm xs)]]
  (.tup [.bool (decide (rv neg xs<0)),.sl (Zb (rv neg xs).natAbs).length (lm (Zb (rv neg xs).natAbs))]):=by
 obtain⟨e1,e2,e3⟩:=Zfe xs;have ht:=G8 (neg:=neg) hu;have hn:=Zu5 (neg:=neg) hu;have hlen:(Ze xs).length=Zz xs xs.length:=by rw[<- e1,Int.toNat_natCast];rfl
 cases neg with
 | true =>
  have h:=Rq xs (Zcm true xs hN xs.length (Nat.le_refl _)) e3;rw[e2,e1,ht] at h;have e4:decide (((Zz xs xs.length:Nat):Int)>0)=decide (rv true xs<0):=by
   rw[<- hn,Bool.true_and,<- ht,hlen,decide_eq_decide];omega
  rw[e4] at h;exact h
 | false =>
  have h:=Lp xs (Zcm false xs hN xs.length (Nat.le_refl _)) e3;rw[e2,e1,ht] at h;rw[Bool.false_and] at hn;rw[<- hn];exact h
def B3 (neg:Bool) (N:Nat) (cs:List AV) (n:Int):Zk:=(.val (.bool neg)::(.val (.sl N cs)::(dds 2 (.box [.bool false,.sl 0 []]::(.val (.int .i64 n)::(dds 23 []))))))
theorem Zzw (neg:Bool) (N:Nat) (cs:List AV) (n:Int) (x:Int) (c1:(decide (n>0))=true) (c2:(x==0)=true) (n1:0<=(i64.wrap (n-1))/\(i64.wrap (n-1))<(N:Int)) (n2:Qn (List.drop (Int.toNat (i64.wrap (n-1))*1) cs) 0 1 true=some (.int .u32 x)):Za Yir Zau (B3 neg N cs n) .norm (B3 neg N cs (i64.wrap (n-1))):=Za.go Qp 300 [.b true,.v (.int .u32 x),.b true] [0,1,4,5] (ac c1 (ac n1 (ac n2 (ac c2 a0)))) (by kernel_rfl)
theorem Zzv (neg:Bool) (N:Nat) (cs:List AV) (n:Int) (x:Int) (c1:(decide (n>0))=true) (c2:(x==0)=false) (n1:0<=(i64.wrap (n-1))/\(i64.wrap (n-1))<(N:Int)) (n2:Qn (List.drop (Int.toNat (i64.wrap (n-1))*1) cs) 0 1 true=some (.int .u32 x)):Za Yir Zau (B3 neg N cs n) (.exit 0) (B3 neg N cs n):=Za.go Qp 300 [.b true,.v (.int .u32 x),.b false] [0,1,4,5] (ac c1 (ac n1 (ac n2 (ac c2 a0)))) (by kernel_rfl)
theorem Zzu (neg:Bool) (N:Nat) (cs:List AV) (n:Int) (c1:(decide (n>0))=false):Za Yir Zau (B3 neg N cs n) (.exit 0) (B3 neg N cs n):=Za.go Qp 300 [.b false,.b false] [0,1,4,5] (ac c1 (ac (show false=false from rfl) a0)) (by kernel_rfl)
theorem Zql (neg:Bool) (xs:List Int) (hN:xs.length<=1048576):∀ m,m<=xs.length->Za Yir (.loop Zau) (B3 neg xs.length (lm xs) (m:Int)) (.exit 0) (B3 neg xs.length (lm xs) ((Zz xs m:Nat):Int)):=by
 intro m;induction m with
 | zero =>
  intro _;exact Za.loop_out (Zzu neg xs.length (lm xs) ((0:Nat):Int) (by simp)) nofun
 | succ m ih =>
  intro hm;have e1:i64.wrap (((m+1:Nat):Int)-1)=(m:Int):=by rw[w64 (by omega) (by omega)];omega
  have hx:=J6 (xs:=xs) (i:=m) (by omega);simp only[Zz];by_cases h0:xs.getD m 0=0
  ·rw[if_pos h0];have h1:=Zzw neg xs.length (lm xs) ((m+1:Nat):Int) (xs.getD m 0) (by simp) (by rw[h0];rfl) (by rw[e1];omega) (by rw[e1,Int.toNat_natCast];exact hx);rw[e1] at h1;exact Za.loop h1 (ih (by omega))
  ·rw[if_neg h0];exact Za.loop_out (Zzv neg xs.length (lm xs) ((m+1:Nat):Int) (xs.getD m 0) (by simp) (by simpa using h0) (by rw[e1];omega) (by rw[e1,Int.toNat_natCast];exact hx)) nofun
theorem Zir (neg:Bool) (xs:List Int) (hz:(((Zz xs xs.length:Nat):Int)==0)=true) (hl:Za Yir (.loop Zau) (B3 neg xs.length (lm xs) (xs.length:Int)) (.exit 0) (B3 neg xs.length (lm xs) ((Zz xs xs.length:Nat):Int))):Zc Yir 152 [.bool neg,.sl xs.length (lm xs)] (.agg [.bool false,.sl 0 []]):=Zc.of_bodyW (fn:=Zer) (s:=(.val (.bool neg)::(.val (.sl xs.length (lm xs))::(dds 2 (.box [.bool false,.sl 0 []]::(.val (.int .i64 ((Zz xs xs.length:Nat):Int))::(dds 14 (.val (.int .i64 ((Zz xs xs.length:Nat):Int))::(.val (.bool (((Zz xs xs.length:Nat):Int)==0))::(.val (.agg [.bool false,.sl 0 []])::(dds 6 []))))))))))) (ex := .ret) rfl rfl (Za.seq (Za.go (t:=(.val (.bool neg)::(vl xs::(dds 2 (.box [.bool false,.sl 0 []]::(dds 24 [])))))) Qp 300 [] [0,1,4] a0) (Za.seq (Za.go (t:=(.val (.bool neg)::(vl xs::(dds 2 (.box [.bool false,.sl 0 []]::(vi (xs.length:Int)::(dds 23 []))))))) Qp 300 [] [0,1,4,5] a0) (Za.seq (Za.block hl) (Za.go (t:=(.val (.bool neg)::(vl xs::(dds 2 (.box [.bool false,.sl 0 []]::(vi ((Zz xs xs.length:Nat):Int)::(dds 14 (vi ((Zz xs xs.length:Nat):Int)::(.val (.bool (((Zz xs xs.length:Nat):Int)==0))::(.val (.agg [.bool false,.sl 0 []])::(dds 6 []))))))))))) (ex := .ret) Qp 300 [.b true] [0,1,4,5,20,21,22] (ac (show (((Zz xs xs.length:Nat):Int)==0)=true from hz) a0))))) nofun rfl
theorem Zis (neg:Bool) (xs:List Int) (hz:(((Zz xs xs.length:Nat):Int)==0)=false) (hl:Za Yir (.loop Zau) (B3 neg xs.length (lm xs) (xs.length:Int)) (.exit 0) (B3 neg xs.length (lm xs) ((Zz xs xs.length:Nat):Int))) (hsc:0<=(Int.toNat ((Zz xs xs.length:Nat):Int))/\(Int.toNat ((Zz xs xs.length:Nat):Int))<=(Int.toNat ((Zz xs xs.length:Nat):Int))/\(Int.toNat ((Zz xs xs.length:Nat):Int))<=xs.length/\(true=true->true=true)):Zc Yir 152 [.bool neg,.sl xs.length (lm xs)] (.agg [.bool neg,.sl ((Int.toNat ((Zz xs xs.length:Nat):Int))-0) (List.take (((Int.toNat ((Zz xs xs.length:Nat):Int))-0)*1) (List.drop (0*1) (lm xs)))]):=Zc.of_bodyW (fn:=Zer) (s:=(.val (.bool neg)::(.val (.sl xs.length (lm xs))::(dds 2 (.box [.bool neg,.sl ((Int.toNat ((Zz xs xs.length:Nat):Int))-0) (List.take (((Int.toNat ((Zz xs xs.length:Nat):Int))-0)*1) (List.drop (0*1) (lm xs)))]::(.val (.int .i64 ((Zz xs xs.length:Nat):Int))::(dds 14 (.val (.int .i64 ((Zz xs xs.length:Nat):Int))::(.val (.bool (((Zz xs xs.length:Nat):Int)==0))::(dds 1 (.val (.bool neg)::(.val (.sl xs.length (lm xs))::(.val (.int .i64 ((Zz xs xs.length:Nat):Int))::(.val (.int .i64 ((Zz xs xs.length:Nat):Int))::(.val (.sl ((Int.toNat ((Zz xs xs.length:Nat):Int))-0) (List.take (((Int.toNat ((Zz xs xs.length:Nat):Int))-0)*1) (List.drop (0*1) (lm xs))))::(.val (.agg [.bool neg,.sl ((Int.toNat ((Zz xs xs.length:Nat):Int))-0) (List.take (((Int.toNat ((Zz xs xs.length:Nat):Int))-0)*1) (List.drop (0*1) (lm xs)))])::[])))))))))))))))) (ex := .ret) rfl rfl (Za.seq (Za.go (t:=(.val (.bool neg)::(vl xs::(dds 2 (.box [.bool false,.sl 0 []]::(dds 24 [])))))) Qp 300 [] [0,1,4] a0) (Za.seq (Za.go (t:=(.val (.bool neg)::(vl xs::(dds 2 (.box [.bool false,.sl 0 []]::(vi (xs.length:Int)::(dds 23 []))))))) Qp 300 [] [0,1,4,5] a0) (Za.seq (Za.block hl) (Za.go (t:=(.val (.bool neg)::(vl xs::(dds 2 (.box [.bool neg,.sl ((Int.toNat ((Zz xs xs.length:Nat):Int))-0) (List.take (((Int.toNat ((Zz xs xs.length:Nat):Int))-0)*1) (List.drop (0*1) (lm xs)))]::(vi ((Zz xs xs.length:Nat):Int)::(dds 14 (vi ((Zz xs xs.length:Nat):Int)::(.val (.bool (((Zz xs xs.length:Nat):Int)==0))::(dds 1 (.val (.bool neg)::(vl xs::(vi ((Zz xs xs.length:Nat):Int)::(vi ((Zz xs xs.length:Nat):Int)::(.val (.sl ((Int.toNat ((Zz xs xs.length:Nat):Int))-0) (List.take (((Int.toNat ((Zz xs xs.length:Nat):Int))-0)*1) (List.drop (0*1) (lm xs))))::(.val (.agg [.bool neg,.sl ((Int.toNat ((Zz xs xs.length:Nat):Int))-0) (List.take (((Int.toNat ((Zz xs xs.length:Nat):Int))-0)*1) (List.drop (0*1) (lm xs)))])::[])))))))))))))))) (ex := .ret) Qp 300 [.b false] [0,1,4,5,20,21,23,24,25,26,27,28] (ac (show (((Zz xs xs.length:Nat):Int)==0)=false from hz) (ac (show 0<=((Zz xs xs.length:Nat):Int) from (Int.natCast_nonneg _)) (ac (show 0<=((Zz xs xs.length:Nat):Int) from (Int.natCast_nonneg _)) (ac (show 0<=(Int.toNat ((Zz xs xs.length:Nat):Int))/\(Int.toNat ((Zz xs xs.length:Nat):Int))<=(Int.toNat ((Zz xs xs.length:Nat):Int))/\(Int.toNat ((Zz xs xs.length:Nat):Int))<=xs.length/\(true=true->true=true) from hsc) a0)))))))) nofun rfl
theorem Xp {neg:Bool} {xs:List Int} (hu:U32 xs) (hN:xs.length<=1048576):Zc Yir 152 [.bool neg,.sl xs.length (lm xs)] (Zi (rv neg xs)):=by
 obtain⟨e1,e2,e3⟩:=Zfe xs;have ht:=G8 (neg:=neg) hu;have hn:=Zu5 (neg:=neg) hu;have hlen:(Ze xs).length=Zz xs xs.length:=by rw[<- e1,Int.toNat_natCast];rfl
 have hl:=Zql neg xs hN xs.length (Nat.le_refl _);by_cases h0:Zz xs xs.length=0
 ·have h:=Zir neg xs (by rw[h0];rfl) hl;have hz:(Zb (rv neg xs).natAbs).length=0:=by rw[<- ht,hlen,h0]
  have hv:rv neg xs=0:=by have:=(Q7 _).1 hz;omega
  rw[hv];exact h
 ·have h:=Zis neg xs (by rw[beq_eq_false_iff_ne];omega) hl ⟨e3.1,Nat.le_refl _,e3.2.1,fun _=>rfl⟩;rw[e2,e1,ht] at h;have hp:decide (0<(Zb (rv neg xs).natAbs).length)=true:=by rw[<- ht,hlen];simp;omega
  rw[hp,Bool.and_true] at hn;rw[Zi,<- hn];exact h
theorem Ziz (n:Int) (c1:decide (n<0)=true) (hcall:Zc Yir 152 [.bool (decide (n<0)),.sl 2 [.int .u32 (u32.wrap (u64.wrap (0-(u64.wrap n)))),.int .u32 (u32.wrap (Int.fdiv (u64.wrap (0-(u64.wrap n))) (2^(min (Int.toNat 32) (IntKind.bits .u64)))))]] (.agg [.bool (decide (n<0)),.sl ((Zb (Int.natAbs n)).length) (lm (Zb (Int.natAbs n)))])):Zc Yir 132 [.int .i64 n] (.agg [.bool (decide (n<0)),.sl ((Zb (Int.natAbs n)).length) (lm (Zb (Int.natAbs n)))]):=Zc.script (ps:=[(decide (n<0))=true,¬ (32:Int)<0,Zc Yir 152 [.bool (decide (n<0)),.sl 2 [.int .u32 (u32.wrap (u64.wrap (0-(u64.wrap n)))),.int .u32 (u32.wrap (Int.fdiv (u64.wrap (0-(u64.wrap n))) (2^(min (Int.toNat 32) (IntKind.bits .u64)))))]] (.agg [.bool (decide (n<0)),.sl ((Zb (Int.natAbs n)).length) (lm (Zb (Int.natAbs n)))])]) Qp rfl 300 rfl [.b true,.r (.agg [.bool (decide (n<0)),.sl ((Zb (Int.natAbs n)).length) (lm (Zb (Int.natAbs n)))])] (by kernel_rfl) ⟨c1,(by decide),hcall,trivial⟩
theorem Ziy (n:Int) (c1:decide (n<0)=false) (hcall:Zc Yir 152 [.bool (decide (n<0)),.sl 2 [.int .u32 (u32.wrap (u64.wrap n)),.int .u32 (u32.wrap (Int.fdiv (u64.wrap n) (2^(min (Int.toNat 32) (IntKind.bits .u64)))))]] (.agg [.bool (decide (n<0)),.sl ((Zb (Int.natAbs n)).length) (lm (Zb (Int.natAbs n)))])):Zc Yir 132 [.int .i64 n] (.agg [.bool (decide (n<0)),.sl ((Zb (Int.natAbs n)).length) (lm (Zb (Int.natAbs n)))]):=Zc.script (ps:=[(decide (n<0))=false,¬ (32:Int)<0,Zc Yir 152 [.bool (decide (n<0)),.sl 2 [.int .u32 (u32.wrap (u64.wrap n)),.int .u32 (u32.wrap (Int.fdiv (u64.wrap n) (2^(min (Int.toNat 32) (IntKind.bits .u64)))))]] (.agg [.bool (decide (n<0)),.sl ((Zb (Int.natAbs n)).length) (lm (Zb (Int.natAbs n)))])]) Qp rfl 300 rfl [.b false,.r (.agg [.bool (decide (n<0)),.sl ((Zb (Int.natAbs n)).length) (lm (Zb (Int.natAbs n)))])] (by kernel_rfl) ⟨c1,(by decide),hcall,trivial⟩
theorem Zv6 {n:Int} (hn : -9223372036854775808<=n/\n<=9223372036854775807):Zc Yir 132 [.int .i64 n] (Zi n):=by
 cases c1:decide (n<0) with
 | true =>
  have h0:n<0:=by simpa using c1
  have eu:(u64.wrap (0-u64.wrap n)) = -n:=by rw[Qw,Qw];omega
  obtain⟨k1,k2⟩:=Fi (u:=(u64.wrap (0-u64.wrap n))) (by rw[eu];omega);refine Ziz n c1 ?_;have:=Xp (neg:=true) k1 (by simp);have e:rv true [u32.wrap (u64.wrap (0-u64.wrap n)),u32.wrap (Int.fdiv (u64.wrap (0-u64.wrap n)) (2^(min (Int.toNat 32) (IntKind.bits .u64))))]=n:=by
   unfold rv;rw[k2,if_pos rfl,eu];omega
  rw[e,Zi,c1] at this;rw[c1];exact this
 | false =>
  have h0:¬ n<0:=by simpa using c1
  have eu:u64.wrap n=n:=by rw[Qw];omega
  obtain⟨k1,k2⟩:=Fi (u:=u64.wrap n) (by rw[eu];omega);refine Ziy n c1 ?_;have:=Xp (neg:=false) k1 (by simp);have e:rv false [u32.wrap (u64.wrap n),u32.wrap (Int.fdiv (u64.wrap n) (2^(min (Int.toNat 32) (IntKind.bits .u64))))]=n:=by
   unfold rv;rw[if_neg (by decide),k2,eu]
  rw[e,Zi,c1] at this;rw[c1];exact this
theorem Zyg (neg:Bool) (xs:List Int) (a r:Int) (h1:Zc Yir 143 [.agg [.bool neg,.sl xs.length (lm xs)]] (.tup [.bool (decide (a<0)),.sl ((Zb (Int.natAbs a)).length) (lm (Zb (Int.natAbs a)))])) (h2:Zc Yir 152 [.bool (decide (a<0)),.sl (Zb (Int.natAbs a)).length (lm (Zb (Int.natAbs a)))] (.agg [.bool (decide (r<0)),.sl ((Zb (Int.natAbs r)).length) (lm (Zb (Int.natAbs r)))])) (hal:List.length (lm (Zb (Int.natAbs a)))=(Zb (Int.natAbs a)).length*1) (han:(Zb (Int.natAbs a)).length<=1048576):Zc Yir 113 [.agg [.bool neg,.sl xs.length (lm xs)]] (.agg [.bool (decide (r<0)),.sl ((Zb (Int.natAbs r)).length) (lm (Zb (Int.natAbs r)))]):=Zc.script (ps:=[Zc Yir 143 [.agg [.bool neg,.sl xs.length (lm xs)]] (.tup [.bool (decide (a<0)),.sl ((Zb (Int.natAbs a)).length) (lm (Zb (Int.natAbs a)))]),List.length (lm (Zb (Int.natAbs a)))=((Zb (Int.natAbs a)).length)*1,((Zb (Int.natAbs a)).length)<=35184372088832,Zc Yir 152 [.bool (decide (a<0)),.sl ((Zb (Int.natAbs a)).length) (lm (Zb (Int.natAbs a)))] (.agg [.bool (decide (r<0)),.sl ((Zb (Int.natAbs r)).length) (lm (Zb (Int.natAbs r)))])]) Qp rfl 300 rfl [.r (.tup [.bool (decide (a<0)),.sl ((Zb (Int.natAbs a)).length) (lm (Zb (Int.natAbs a)))]),.r (.agg [.bool (decide (r<0)),.sl ((Zb (Int.natAbs r)).length) (lm (Zb (Int.natAbs r)))])] (by kernel_rfl) ⟨h1,hal,(Nat.le_trans han (by decide)),h2,trivial⟩
theorem Zx5 (neg:Bool) (xs:List Int) (a r:Int) (h1:Zc Yir 143 [.agg [.bool neg,.sl xs.length (lm xs)]] (.tup [.bool (decide (a<0)),.sl ((Zb (Int.natAbs a)).length) (lm (Zb (Int.natAbs a)))])) (h2:Zc Yir 152 [.bool (!(decide (a<0))),.sl (Zb (Int.natAbs a)).length (lm (Zb (Int.natAbs a)))] (.agg [.bool (decide (r<0)),.sl ((Zb (Int.natAbs r)).length) (lm (Zb (Int.natAbs r)))])) (hal:List.length (lm (Zb (Int.natAbs a)))=(Zb (Int.natAbs a)).length*1) (han:(Zb (Int.natAbs a)).length<=1048576):Zc Yir 131 [.agg [.bool neg,.sl xs.length (lm xs)]] (.agg [.bool (decide (r<0)),.sl ((Zb (Int.natAbs r)).length) (lm (Zb (Int.natAbs r)))]):=Zc.script (ps:=[Zc Yir 143 [.agg [.bool neg,.sl xs.length (lm xs)]] (.tup [.bool (decide (a<0)),.sl ((Zb (Int.natAbs a)).length) (lm (Zb (Int.natAbs a)))]),List.length (lm (Zb (Int.natAbs a)))=((Zb (Int.natAbs a)).length)*1,((Zb (Int.natAbs a)).length)<=35184372088832,Zc Yir 152 [.bool (!(decide (a<0))),.sl ((Zb (Int.natAbs a)).length) (lm (Zb (Int.natAbs a)))] (.agg [.bool (decide (r<0)),.sl ((Zb (Int.natAbs r)).length) (lm (Zb (Int.natAbs r)))])]) Qp rfl 300 rfl [.r (.tup [.bool (decide (a<0)),.sl ((Zb (Int.natAbs a)).length) (lm (Zb (Int.natAbs a)))]),.r (.agg [.bool (decide (r<0)),.sl ((Zb (Int.natAbs r)).length) (lm (Zb (Int.natAbs r)))])] (by kernel_rfl) ⟨h1,hal,(Nat.le_trans han (by decide)),h2,trivial⟩
theorem Zb4 (xs:List Int):List.length (lm xs)=xs.length*1:=by rw [Dq,Nat.mul_one]
theorem rv_pos (n:Int):rv false (Zb n.natAbs)=(n.natAbs:Int):=by unfold rv;rw [if_neg (by decide),Qs]
theorem Zu0 (n:Int):rv (!decide (n<0)) (Zb n.natAbs) = -n:=by
 unfold rv;rw[Qs];by_cases h:n<0 <;> simp[h] <;> omega
theorem G2 {neg:Bool} {xs:List Int} (hu:U32 xs) (hN:xs.length<=1048576):Zc Yir 113 [.agg [.bool neg,.sl xs.length (lm xs)]] (Zi (rv neg xs)):=by
 have hl:(Zb (rv neg xs).natAbs).length<=1048576:=Nat.le_trans (Ul hu) hN;have h2:=Xp (neg:=decide (rv neg xs<0)) (Qk (rv neg xs).natAbs) hl;rw[Vh] at h2;exact Zyg neg xs (rv neg xs) (rv neg xs) (Jl hu hN) h2 (Zb4 _) hl
theorem Za2 {neg:Bool} {xs:List Int} (hu:U32 xs) (hN:xs.length<=1048576):Zc Yir 131 [.agg [.bool neg,.sl xs.length (lm xs)]] (Zi (-(rv neg xs))):=by
 have hl:(Zb (rv neg xs).natAbs).length<=1048576:=Nat.le_trans (Ul hu) hN;have h2:=Xp (neg := !decide (rv neg xs<0)) (Qk (rv neg xs).natAbs) hl;rw[Zu0] at h2;exact Zx5 neg xs (rv neg xs) (-(rv neg xs)) (Jl hu hN) h2 (Zb4 _) hl
def Zcj (a:Int):AV :=
 match (((Zb (Int.natAbs a)).length:Nat):Int)==0 with
 | true=>(.int .i64 0)
 | false=>(match decide (a<0) with
 | true=>(.int .i64 (-1))
 | false=>(.int .i64 1))
theorem Zyk (neg:Bool) (xs:List Int) (a:Int) (h1:Zc Yir 143 [.agg [.bool neg,.sl xs.length (lm xs)]] (.tup [.bool (decide (a<0)),.sl ((Zb (Int.natAbs a)).length) (lm (Zb (Int.natAbs a)))])):Zc Yir 101 [.agg [.bool neg,.sl xs.length (lm xs)]] (Zcj a):=by
 unfold Zcj;cases c1:((((Zb (Int.natAbs a)).length:Nat):Int)==0)
 ·cases c2:(decide (a<0))
  ·exact Zc.script (r := .int .i64 1) (ps:=[Zc Yir 143 [.agg [.bool neg,.sl xs.length (lm xs)]] (.tup [.bool (decide (a<0)),.sl ((Zb (Int.natAbs a)).length) (lm (Zb (Int.natAbs a)))]),((((Zb (Int.natAbs a)).length:Nat):Int)==0)=false,(decide (a<0))=false]) Qp rfl 300 rfl [.r (.tup [.bool (decide (a<0)),.sl ((Zb (Int.natAbs a)).length) (lm (Zb (Int.natAbs a)))]),.b false,.b false] (by kernel_rfl) ⟨h1,c1,c2,trivial⟩
  ·exact Zc.script (r := .int .i64 (-1)) (ps:=[Zc Yir 143 [.agg [.bool neg,.sl xs.length (lm xs)]] (.tup [.bool (decide (a<0)),.sl ((Zb (Int.natAbs a)).length) (lm (Zb (Int.natAbs a)))]),((((Zb (Int.natAbs a)).length:Nat):Int)==0)=false,(decide (a<0))=true]) Qp rfl 300 rfl [.r (.tup [.bool (decide (a<0)),.sl ((Zb (Int.natAbs a)).length) (lm (Zb (Int.natAbs a)))]),.b false,.b true] (by kernel_rfl) ⟨h1,c1,c2,trivial⟩
 ·exact Zc.script (r := .int .i64 0) (ps:=[Zc Yir 143 [.agg [.bool neg,.sl xs.length (lm xs)]] (.tup [.bool (decide (a<0)),.sl ((Zb (Int.natAbs a)).length) (lm (Zb (Int.natAbs a)))]),((((Zb (Int.natAbs a)).length:Nat):Int)==0)=true]) Qp rfl 300 rfl [.r (.tup [.bool (decide (a<0)),.sl ((Zb (Int.natAbs a)).length) (lm (Zb (Int.natAbs a)))]),.b true] (by kernel_rfl) ⟨h1,c1,trivial⟩
theorem G3 {neg:Bool} {xs:List Int} (hu:U32 xs) (hN:xs.length<=1048576):Zc Yir 101 [.agg [.bool neg,.sl xs.length (lm xs)]] (.int .i64 (Xd (rv neg xs))):=by
 have h:=Zyk neg xs (rv neg xs) (Jl hu hN);have e:Zcj (rv neg xs) = .int .i64 (Xd (rv neg xs)):=by
  unfold Zcj Xd;have hz:=Q7 (rv neg xs).natAbs;by_cases h0:rv neg xs=0
  ·rw[h0];rfl
  ·have e1:((((Zb (rv neg xs).natAbs).length:Nat):Int)==0)=false:=by rw[beq_eq_false_iff_ne];omega
   rw[e1];by_cases h1:rv neg xs<0
   ·simp[h1]
   ·have h2:0<rv neg xs:=by omega
    simp[h1,h2]
 rw[<- e];exact h
def TWA:J8:=TQ0
theorem Zw:Q9 Yir TWA:=Qp
end Go.Proofs.YtopjpgejefileaaGreat
