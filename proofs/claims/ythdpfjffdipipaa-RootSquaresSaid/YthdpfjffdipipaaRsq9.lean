/- Texts of the proof of RootSquares, packed by pack.py: part 9 of 18. -/
import Derived.Test.YthdpfjffdipipaaRsq8
namespace Go.Proofs.Ythdpfjffdipipaa
open Go.IntKind (i64 u64 u32)
open Go.Ai
set_option maxRecDepth 100000
theorem Zgt (neg:Bool) (xs:List Int) (c1:((((Zj xs).length:Nat):Int)==0)=true) (n1:Zc Yir 80 [.sl xs.length (lm xs)] (.fresh 1 ((Zj xs).length) (lm (Zj xs)))):Zc Yir 43 [.agg [.bool neg,.sl xs.length (lm xs)]] (.int .i64 0):=Zc.go (fn:=Zvn) Hd rfl 400 rfl [.r (.fresh 1 ((Zj xs).length) (lm (Zj xs))),.b true] (ac n1 (ac c1 a0))
theorem Zgs (neg:Bool) (xs:List Int) (c1:((((Zj xs).length:Nat):Int)==0)=false) (c2:(neg)=true) (n1:Zc Yir 80 [.sl xs.length (lm xs)] (.fresh 1 ((Zj xs).length) (lm (Zj xs)))):Zc Yir 43 [.agg [.bool neg,.sl xs.length (lm xs)]] (.int .i64 (-1)):=Zc.go (fn:=Zvn) Hd rfl 400 rfl [.r (.fresh 1 ((Zj xs).length) (lm (Zj xs))),.b false,.b true] (ac n1 (ac c1 (ac c2 a0)))
theorem Zgr (neg:Bool) (xs:List Int) (c1:((((Zj xs).length:Nat):Int)==0)=false) (c2:(neg)=false) (n1:Zc Yir 80 [.sl xs.length (lm xs)] (.fresh 1 ((Zj xs).length) (lm (Zj xs)))):Zc Yir 43 [.agg [.bool neg,.sl xs.length (lm xs)]] (.int .i64 1):=Zc.go (fn:=Zvn) Hd rfl 400 rfl [.r (.fresh 1 ((Zj xs).length) (lm (Zj xs))),.b false,.b false] (ac n1 (ac c1 (ac c2 a0)))
theorem Yrun99 (neg:Bool) (xs:List Int) (v:Int) (n1:Zc Yir 84 [.bool neg,.sl xs.length (lm xs)] (Za1 v)):Zc Yir 99 [.agg [.bool neg,.sl xs.length (lm xs)]] (Zi v):=Zc.go (fn:=Yi99) Hd rfl 400 rfl [.r (Za1 v)] (ac n1 a0)
theorem Mq (xs:List Int) (v:Int):lm xs++([.int .u32 v]:List AV)=lm (xs++[v]):=by simp [lm]
theorem Tl {xs:List Int} (h:U32 xs) {v:Int} (hv:0<=v/\v<4294967296):U32 (xs++[v]):=by
 intro x hx;rcases List.mem_append.1 hx with g | g
 ·exact h x g
 ·rw[List.mem_singleton.1 g];exact hv
theorem Lh (xs:List Int) (v:Int):Zn (xs++[v])=Zn xs+4294967296^xs.length*v:=by rw [Uw];simp [Zn]
theorem sr32 {s:Int}:Int.fdiv s (2^(min (Int.toNat 32) (IntKind.bits .u64)))=s / 4294967296:=by
 show Int.fdiv s 4294967296=_;rw[Int.fdiv_eq_ediv_of_nonneg _ (by omega)]
theorem Zeu {neg:Bool} {xs:List Int} (hu:U32 xs) (hN:xs.length<=1048576):Zc Yir 84 [.bool neg,.sl xs.length (lm xs)] (Za1 (rv neg xs)):=Aq hu hN
theorem Zdu {neg:Bool} {xs:List Int} (hu:U32 xs) (hN:xs.length<=1048576):Zc Yir 43 [.agg [.bool neg,.sl xs.length (lm xs)]] (.int .i64 (Wa (rv neg xs))):=by
 have hm:=Mp (Nat.le_trans hN (by decide));have hz:(Zj xs).length=0↔Zn xs=0:=by
  have:=Z0 hu;rw[N8 hu,Ju];omega
 have hv:=Z0 hu;by_cases h0:Zn xs=0
 ·have h:=Zgt neg xs (by rw[beq_iff_eq];omega) hm;have e:Wa (rv neg xs)=0:=by unfold rv;rw[h0];cases neg <;> rfl
  rw[e];exact h
 ·cases neg with
  | true =>
   have h:=Zgs true xs (by rw[beq_eq_false_iff_ne];omega) rfl hm;have e:Wa (rv true xs) = -1:=by simp only[rv,if_true,Wa]; (repeat' split) <;> omega
   rw[e];exact h
  | false =>
   have h:=Zgr false xs (by rw[beq_eq_false_iff_ne];omega) rfl hm;have e:Wa (rv false xs)=1:=by simp only[rv,Bool.false_eq_true,if_false,Wa]; (repeat' split) <;> omega
   rw[e];exact h
theorem Zdt {neg:Bool} {xs:List Int} (hu:U32 xs) (hN:xs.length<=1048576):Zc Yir 99 [.agg [.bool neg,.sl xs.length (lm xs)]] (Zi (rv neg xs)):=Yrun99 neg xs _ (Zeu hu hN)
theorem Zi8 {xs:List Int} (h:U32 xs):U32 (Zj xs):=(Bu h).1
def TBD:Jx:=TBC
theorem Hc:Qn Yir TBD:=Hd
end Go.Proofs.Ythdpfjffdipipaa

namespace Go.Proofs.Ythdpfjffdipipaa
open Go.IntKind (i64 u64 u32)
open Go.Ai
theorem or64 {q c:Int} {s:Nat} (hq:0<=q) (hs:q*2^s<18446744073709551616) (hs':s<=64) (hc:0<=c/\c<2^s) :
  u64.wrap ((BitVec.ofInt (IntKind.bits .u64) (q*2^s) ||| BitVec.ofInt (IntKind.bits .u64) c).toNat)=q*2^s+c:=by
 obtain⟨a,rfl⟩:∃ a:Nat,q=a:=⟨q.toNat,by omega⟩;obtain⟨b,rfl⟩:∃ b:Nat,c=b:=⟨c.toNat,by omega⟩;have e1:(a:Int)*2^s=((a*2^s:Nat):Int):=by rw[Int.natCast_mul,Int.natCast_pow];rfl
 have hb:b<2^s:=by
  have:(b:Int)<((2^s:Nat):Int):=by rw[Int.natCast_pow];exact hc.2
  omega
 have h64:2^s<=2^64:=Nat.pow_le_pow_right (by decide) hs';have e64:2^64=18446744073709551616:=by decide
 rw[e1] at hs |-;show u64.wrap ((BitVec.ofInt 64 ((a*2^s:Nat):Int) ||| BitVec.ofInt 64 (b:Int)).toNat:Int)=_;rw[BitVec.toNat_or,BitVec.ofInt_natCast,BitVec.ofInt_natCast,BitVec.toNat_ofNat,BitVec.toNat_ofNat,Nat.mod_eq_of_lt (by omega),Nat.mod_eq_of_lt (by omega),Nat.mul_comm a,<- Nat.two_pow_add_eq_or_of_lt hb,Nat.mul_comm (2^s) a,Js];have hsum:a*2^s+b<18446744073709551616:=by
  have hd:a*2^s+2^s<=2^64:=by
   have hk:2^64=2^(64-s)*2^s:=by rw[<- Nat.pow_add];congr 1;omega
   have h1:a<2^(64-s):=by
    rcases Nat.lt_or_ge a (2^(64-s)) with g | g
    ·exact g
    ·have:=Nat.mul_le_mul_right (2^s) g;omega
   have h2:=Nat.mul_le_mul_right (2^s) (show a+1<=2^(64-s) by omega);rw[Nat.add_mul,Nat.one_mul] at h2;omega
  omega
 omega
theorem Qc (n:Nat):(0:Int)<2^n:=Int.pow_pos (by decide)
theorem Wz {a b:Nat} (h:a<=b):(2:Int)^a<=2^b:=by
 have h1:2^a<=2^b:=Nat.pow_le_pow_right (by decide) h;have e:∀ n:Nat,(2:Int)^n=((2^n:Nat):Int):=fun n=>by rw[Int.natCast_pow];rfl
 rw[e,e];omega
theorem G3 (n:Nat):(4294967296:Int)^n=2^(32*n):=by
 rw[Int.pow_mul];rfl
theorem Vr (n:Nat):(2:Int)^n=4294967296^(n / 32)*2^(n % 32):=by
 rw[G3,<- Int.pow_add,Nat.div_add_mod]
end Go.Proofs.Ythdpfjffdipipaa

namespace Go.Proofs.Ythdpfjffdipipaa
open Go.IntKind (i64 u64 u32)
open Go.Ai
set_option maxRecDepth 100000
def Zpl (neg:Bool) (xs:List Int) (n:Nat) (cs:List AV) (c:Int) (s:Int) (ms:List Int) (i:Int):Zg:=(dds 2 (.box [.bool neg,.sl xs.length (lm xs)]::(dds 1 (.box [.bool false,.sl 0 []]::(.own 1 n cs::(.val (.int .u32 c)::(.val (.int .u64 s)::(.val (.sl ms.length (lm ms))::(.val (.int .i64 i)::(dds 41 []))))))))))
theorem Yk83_1 (neg:Bool) (xs:List Int) (n:Nat) (cs:List AV) (c:Int) (s:Int) (ms:List Int) (i:Int)  (c1:(decide (i<(ms.length:Int)))=true) (n1:0<=i/\i<(ms.length:Int)) (n2:¬ s<0) (n3:n+1<=35184372088832):Za Yir Yc83 (Zpl neg xs n cs c s ms i) .norm (Zpl neg xs (n+1) (cs++([.int .u32 (u32.wrap (u64.wrap ((BitVec.ofInt (IntKind.bits .u64) (u64.wrap ((u64.wrap (ms.getD (Int.toNat i) 0))*2^(min (Int.toNat s) (IntKind.bits .u64)))) ||| BitVec.ofInt (IntKind.bits .u64) (u64.wrap c)).toNat)))]:List AV)) (u32.wrap (Int.fdiv (u64.wrap ((BitVec.ofInt (IntKind.bits .u64) (u64.wrap ((u64.wrap (ms.getD (Int.toNat i) 0))*2^(min (Int.toNat s) (IntKind.bits .u64)))) ||| BitVec.ofInt (IntKind.bits .u64) (u64.wrap c)).toNat)) (2^(min (Int.toNat 32) (IntKind.bits .u64))))) s ms (i64.wrap (i+1))):=(Za.go Hc 400 [.b true,.v (.int .u32 (ms.getD (Int.toNat i) 0))] [2,4,5,6,7,8,9] (ac c1 (ac n1 (ac (Qe n1) (ac n2 (ac (show List.length ([.int .u32 (u32.wrap (u64.wrap ((BitVec.ofInt (IntKind.bits .u64) (u64.wrap ((u64.wrap (ms.getD (Int.toNat i) 0))*2^(min (Int.toNat s) (IntKind.bits .u64)))) ||| BitVec.ofInt (IntKind.bits .u64) (u64.wrap c)).toNat)))]:List AV)=1*1 from rfl) (ac n3 (ac (show ¬ (32:Int)<0 from (by decide)) a0))))))))
theorem Yk83_2 (neg:Bool) (xs:List Int) (n:Nat) (cs:List AV) (c:Int) (s:Int) (ms:List Int) (i:Int)  (c1:(decide (i<(ms.length:Int)))=false):Za Yir Yc83 (Zpl neg xs n cs c s ms i) (.exit 0) (Zpl neg xs n cs c s ms i):=(Za.go Hc 400 [.b false] [2,4,5,6,7,8,9] (ac c1 a0))
theorem Yrun83 (neg:Bool) (xs:List Int) (sh:Int) (n:Nat) (cs:List AV) (c i v:Int) (n1:0<=(i64.wrap (Int.tdiv sh 32))/\(i64.wrap (Int.tdiv sh 32))<=1048576) (n2:Zc Yir 80 [.sl xs.length (lm xs)] (.fresh 1 ((Zj xs).length) (lm (Zj xs)))) (hl3:Za Yir (.loop Yc83) (Zpl neg xs (Int.toNat (i64.wrap (Int.tdiv sh 32))) (J3 [.int .u32 0] (Int.toNat (i64.wrap (Int.tdiv sh 32)))) 0 (u64.wrap (Int.tmod sh 32)) (Zj xs) 0) (.exit 0) (Zpl neg xs n cs c (u64.wrap (Int.tmod sh 32)) (Zj xs) i)) (n4:n+1<=35184372088832) (n5:Zc Yir 84 [.bool neg,.sl (n+1) (cs++([.int .u32 c]:List AV))] (Za1 v)):Zc Yir 83 [.agg [.bool neg,.sl xs.length (lm xs)],.int .i64 sh] (Za1 v):=Zc.of_bodyW (fn:=Yi83) (s:=(dds 4 (.bxl 50::(dds 45 (.agn (.st (decide (v<0))) 1 ((Zb (Int.natAbs v)).length) (lm (Zb (Int.natAbs v)))::[]))))) (ex := .ret) rfl rfl (Za.asc (Za.asc (Za.asc (Za.asc (Za.csi (Za.seq (Za.go Hc 400 [.r (.fresh 1 ((Zj xs).length) (lm (Zj xs)))] [2,4,5,6,7,8,9] (ac (show ¬ (32:Int)=0 from (by decide)) (ac n1 (ac (show ¬ (32:Int)=0 from (by decide)) (ac n2 a0))))) (Za.seq (Za.block hl3) (Za.go Hc 400 [.r (Za1 v)] [4,50] (ac (show List.length ([.int .u32 c]:List AV)=1*1 from rfl) (ac n4 (ac n5 a0))))))))))) (by nofun) rfl
theorem Zbk {x c:Int} {s:Nat} (hx:0<=x/\x<4294967296) (hs:s<32) (hc:0<=c/\c<2^s) :
  u64.wrap ((BitVec.ofInt (IntKind.bits .u64) (u64.wrap ((u64.wrap x)*2^(min (Int.toNat (s:Int)) (IntKind.bits .u64)))) ||| BitVec.ofInt (IntKind.bits .u64) (u64.wrap c)).toNat)=x*2^s+c
  /\ 0<=(x*2^s+c) / 4294967296/\(x*2^s+c) / 4294967296<2^s/\(2:Int)^s<=2147483648:=by
 have hp:=Qc s;have hp2:(2:Int)^s<=2147483648:=Wz (show s<=31 by omega);have hm:x*2^s<=4294967295*2^s:=Int.mul_le_mul_of_nonneg_right (by omega) (by omega);have hm0:0<=x*2^s:=Int.mul_nonneg hx.1 (by omega);have hmin:min (Int.toNat (s:Int)) (IntKind.bits .u64)=s:=by
  rw[Int.toNat_natCast];show min s 64=s;omega
 have w1:u64.wrap x=x:=by rw[Js];omega
 have w2:u64.wrap (x*2^s)=x*2^s:=by rw[Js];omega
 have w3:u64.wrap c=c:=by rw[Js];omega
 refine⟨?_,by omega,by omega,hp2⟩;rw[hmin,w1,w2,w3];exact or64 hx.1 (by omega) (by omega) hc
theorem Zry {neg:Bool} {xs ms pre:List Int} (hu:U32 ms) {s:Nat} (hs:s<32) (hN:pre.length+ms.length<=1048576):∀ (r i:Nat) (acc:List Int) (c:Int),i+r=ms.length->acc.length=i->U32 acc->0<=c/\c<2^s ->
  ∃ (zs:List Int) (c':Int),U32 zs/\zs.length=ms.length/\(0<=c'/\c'<2^s)/\Zn zs+4294967296^ms.length*c'=Zn acc+4294967296^i*(c+2^s*Zn (ms.drop i)) /\
   Za Yir (.loop Yc83) (Zpl neg xs (pre.length+i) (lm (pre++acc)) c (s:Nat) ms (i:Nat)) (.exit 0) (Zpl neg xs (pre.length+ms.length) (lm (pre++zs)) c' (s:Nat) ms (ms.length:Nat)):=by
 intro r;induction r with
 | zero =>
  intro i acc c hi hl hacc hc;have e1:Zn (ms.drop i)=0:=X6 (by omega);have hi':i=ms.length:=by omega
  refine⟨acc,c,hacc,by omega,hc,by rw[e1,hi'];simp,?_⟩;rw[hi'];exact Za.loop_out (Yk83_2 neg xs _ _ c (s:Nat) ms (ms.length:Nat) (by simp)) (by nofun)
 | succ r ih =>
  intro i acc c hi hl hacc hc;have bm:=Zx hu i;obtain⟨w1,w2,w3,w4⟩:=Zbk bm hs hc;have ei:i64.wrap ((i:Int)+1)=((i+1:Nat):Int):=by rw[w64 (by omega) (by omega)];omega
  have k:=Yk83_1 neg xs (pre.length+i) (lm (pre++acc)) c (s:Nat) ms (i:Nat) (by simp;omega) (by omega) (by omega) (by omega);have wd:u32.wrap ((ms.getD i 0*2^s+c) / 4294967296)=(ms.getD i 0*2^s+c) / 4294967296:=by rw[H9];omega
  simp only[Int.toNat_natCast i,w1,sr32,wd,H9 (ms.getD i 0*2^s+c),ei,Mq,List.append_assoc] at k;obtain⟨zs,c',q1,q2,q3,q4,q5⟩:=ih (i+1) (acc++[(ms.getD i 0*2^s+c) % 4294967296]) ((ms.getD i 0*2^s+c) / 4294967296) (by omega) (by simp[hl]) (Tl hacc (by omega)) ⟨w2,w3⟩;refine⟨zs,c',q1,q2,q3,?_,Za.loop k q5⟩;rw[q4,Lh,hl,Jd ms i,Int.pow_succ];have hd:=Int.emod_add_mul_ediv (ms.getD i 0*2^s+c) 4294967296;generalize (ms.getD i 0*2^s+c) % 4294967296=m at *
  generalize (ms.getD i 0*2^s+c) / 4294967296=d at *
  generalize (4294967296:Int)^i=p at *
  generalize Zn (ms.drop (i+1))=X at *
  generalize (2:Int)^s=T at *
  generalize ms.getD i 0=y at *
  have:c+T*(y+4294967296*X)=m+4294967296*(d+T*X):=by
   have:c+T*(y+4294967296*X)=(y*T+c)+4294967296*(T*X):=by grind
   omega
  rw[this];grind
theorem Tx {neg:Bool} {xs ys:List Int} {t:Int} (h:Zn ys=t*Zn xs):rv neg ys=rv neg xs*t:=by
 unfold rv;rw[h];generalize Zn xs=X;cases neg <;> simp <;> grind
theorem Zp9 {neg:Bool} {xs:List Int} (hu:U32 xs) (n:Nat) (hN:n / 32+xs.length+1<=1048576):Zc Yir 83 [.agg [.bool neg,.sl xs.length (lm xs)],.int .i64 (n:Nat)] (Za1 (rv neg xs*2^n)):=by
 have t1:=Jj xs;have e1:i64.wrap (Int.tdiv (n:Int) 32)=((n / 32:Nat):Int):=by
  rw[Int.tdiv_eq_ediv_of_nonneg (by omega),w64 (by omega) (by omega)];omega
 have e2:u64.wrap (Int.tmod (n:Int) 32)=((n % 32:Nat):Int):=by
  rw[Int.tmod_eq_emod_of_nonneg (by omega),Js];omega
 obtain⟨zs,c',q1,q2,q3,q4,q5⟩:=Zry (neg:=neg) (xs:=xs) (pre:=List.replicate (n / 32) 0) (Zi8 hu) (s:=n % 32) (by omega) (by simp;omega) (Zj xs).length 0 [] 0 (by omega) rfl (fun x hx=>by cases hx) ⟨by omega,Qc _⟩;have w4:(2:Int)^(n % 32)<=2147483648:=Wz (show n % 32<=31 by omega);simp only[List.length_replicate,List.append_nil,Nat.add_zero,Zn,Int.pow_zero,List.drop_zero,Int.one_mul,Int.zero_add] at q4 q5;have huz:U32 (List.replicate (n / 32) 0++zs++[c']):=by
  refine Tl ?_ (by omega);intro x hx;rcases List.mem_append.1 hx with g | g
  ·exact X2 _ x g
  ·exact q1 x g
 have hlen:(List.replicate (n / 32) 0++zs++[c']).length=n / 32+(Zj xs).length+1:=by simp[q2];omega
 have hk:=Zeu (neg:=neg) huz (by omega);have hval:Zn (List.replicate (n / 32) 0++zs++[c'])=2^n*Zn xs:=by
  rw[Lh,Uw,Ub,Vr n,List.length_append,List.length_replicate,Int.pow_add,q2];rw[Bt] at q4;generalize (4294967296:Int)^(n / 32)=p at *
  generalize (4294967296:Int)^(Zj xs).length=q at *
  generalize (2:Int)^(n % 32)=T at *
  generalize Zn xs=X at *
  generalize Zn zs=Z at *
  grind
 rw[Tx hval,hlen] at hk;refine Yrun83 neg xs (n:Nat) (n / 32+(Zj xs).length) (lm (List.replicate (n / 32) 0++zs)) c' ((Zj xs).length:Nat) _ (by rw[e1];omega) (Mp (by omega)) (by rw[e1,e2,Int.toNat_natCast,U1];exact q5) (by omega) (by rw[Mq];exact hk)
def TBE:Jx:=TBD
theorem Ur:Qn Yir TBE:=Hc
end Go.Proofs.Ythdpfjffdipipaa

namespace Go.Proofs.Ythdpfjffdipipaa
open Go.IntKind (i64 u64 u32)
open Go.Ai
set_option maxRecDepth 100000
def TQ0:Jx:=[]
theorem Qf:Qn Yir TQ0:=Qn.nil _
def Zc7 (neg:Bool) (N:Nat) (cs:List AV) (n:Int):Zg:=(dds 1 (.box [.bool neg,.sl N cs]::(.val (.bool false)::(.own 1 0 []::(.val (.int .i64 n)::(dds 26 []))))))
theorem Yk75_1 (neg:Bool) (N:Nat) (cs:List AV) (n:Int) (x:Int) (c1:(decide (n>0))=true) (c2:(x==0)=true) (n1:0<=(i64.wrap (n-1))/\(i64.wrap (n-1))<(N:Int)) (n2:Qg (List.drop (Int.toNat (i64.wrap (n-1))*1) cs) 0 1 true=some (.int .u32 x)):Za Yir Zv0 (Zc7 neg N cs n) .norm (Zc7 neg N cs (i64.wrap (n-1))):=Za.go Qf 300 [.b true,.v (.int .u32 x),.b true] [1,2,3,4] (ac c1 (ac n1 (ac n2 (ac c2 a0)))) (by kernel_rfl)
theorem Yk75_2 (neg:Bool) (N:Nat) (cs:List AV) (n:Int) (x:Int) (c1:(decide (n>0))=true) (c2:(x==0)=false) (n1:0<=(i64.wrap (n-1))/\(i64.wrap (n-1))<(N:Int)) (n2:Qg (List.drop (Int.toNat (i64.wrap (n-1))*1) cs) 0 1 true=some (.int .u32 x)):Za Yir Zv0 (Zc7 neg N cs n) (.exit 0) (Zc7 neg N cs n):=Za.go Qf 300 [.b true,.v (.int .u32 x),.b false] [1,2,3,4] (ac c1 (ac n1 (ac n2 (ac c2 a0)))) (by kernel_rfl)
theorem Yk75_3 (neg:Bool) (N:Nat) (cs:List AV) (n:Int) (c1:(decide (n>0))=false):Za Yir Zv0 (Zc7 neg N cs n) (.exit 0) (Zc7 neg N cs n):=Za.go Qf 300 [.b false,.b false] [1,2,3,4] (ac c1 (ac (show false=false from rfl) a0)) (by kernel_rfl)
theorem Zhj (neg:Bool) (xs:List Int) (hN:xs.length<=1048576):∀ m,m<=xs.length->Za Yir (.loop Zv0) (Zc7 neg xs.length (lm xs) (m:Int)) (.exit 0) (Zc7 neg xs.length (lm xs) ((Zt xs m:Nat):Int)):=by
 intro m;induction m with
 | zero =>
  intro _;exact Za.loop_out (Yk75_3 neg xs.length (lm xs) ((0:Nat):Int) (by simp)) (by nofun)
 | succ m ih =>
  intro hm;have e1:i64.wrap (((m+1:Nat):Int)-1)=(m:Int):=by rw[w64 (by omega) (by omega)];omega
  have hx:=Xt (xs:=xs) (i:=m) (by omega);simp only[Zt];by_cases h0:xs.getD m 0=0
  ·rw[if_pos h0];have h1:=Yk75_1 neg xs.length (lm xs) ((m+1:Nat):Int) (xs.getD m 0) (by simp) (by rw[h0];rfl) (by rw[e1];omega) (by rw[e1,Int.toNat_natCast];exact hx);rw[e1] at h1;exact Za.loop h1 (ih (by omega))
  ·rw[if_neg h0];exact Za.loop_out (Yk75_2 neg xs.length (lm xs) ((m+1:Nat):Int) (xs.getD m 0) (by simp) (by simpa using h0) (by rw[e1];omega) (by rw[e1,Int.toNat_natCast];exact hx)) (by nofun)
theorem S0 (xs:List Int) (hl:Za Yir (.loop Zv0) (Zc7 true xs.length (lm xs) (xs.length:Int)) (.exit 0) (Zc7 true xs.length (lm xs) ((Zt xs xs.length:Nat):Int))) (hsc:0<=(Int.toNat ((Zt xs xs.length:Nat):Int))/\(Int.toNat ((Zt xs xs.length:Nat):Int))<=xs.length/\xs.length<=xs.length/\(false=true->true=true)):Zc Yir 75 [.agg [.bool true,.sl xs.length (lm xs)]] (.tup [.bool (decide (((Zt xs xs.length:Nat):Int)>0)),.sl ((Int.toNat ((Zt xs xs.length:Nat):Int))-0) (List.take (((Int.toNat ((Zt xs xs.length:Nat):Int))-0)*1) (List.drop (0*1) (lm xs)))]):=Zc.of_bodyW (fn:=Zwg) (s:=(dds 1 (.box [.bool true,.sl xs.length (lm xs)]::(.val (.bool (decide (((Zt xs xs.length:Nat):Int)>0)))::(.val (.sl ((Int.toNat ((Zt xs xs.length:Nat):Int))-0) (List.take (((Int.toNat ((Zt xs xs.length:Nat):Int))-0)*1) (List.drop (0*1) (lm xs))))::(.val (.int .i64 ((Zt xs xs.length:Nat):Int))::(dds 16 (.ptr 1 0::(.val (.bool true)::(.val (.bool true)::(.val (.int .i64 ((Zt xs xs.length:Nat):Int))::(.val (.bool (decide (((Zt xs xs.length:Nat):Int)>0)))::(.val (.bool (decide (((Zt xs xs.length:Nat):Int)>0)))::(.ptr 1 1::(.val (.sl xs.length (lm xs))::(.val (.int .i64 ((Zt xs xs.length:Nat):Int))::(.val (.sl ((Int.toNat ((Zt xs xs.length:Nat):Int))-0) (List.take (((Int.toNat ((Zt xs xs.length:Nat):Int))-0)*1) (List.drop (0*1) (lm xs))))::[]))))))))))))))))) (ex := .ret) rfl rfl (Za.seq (Za.go (t:=(.val (.agg [.bool true,.sl xs.length (lm xs)])::(.box [.bool true,.sl xs.length (lm xs)]::(.val (.bool false)::(.own 1 0 []::(dds 27 [])))))) Qf 300 [] [0,1,2,3] a0) (Za.seq (Za.go (t:=(dds 1 (.box [.bool true,.sl xs.length (lm xs)]::(.val (.bool false)::(.own 1 0 []::(vi (xs.length:Int)::(dds 26 []))))))) Qf 300 [] [1,2,3,4] a0) (Za.seq (Za.block hl) (Za.go (t:=(dds 1 (.box [.bool true,.sl xs.length (lm xs)]::(.val (.bool (decide (((Zt xs xs.length:Nat):Int)>0)))::(.val (.sl ((Int.toNat ((Zt xs xs.length:Nat):Int))-0) (List.take (((Int.toNat ((Zt xs xs.length:Nat):Int))-0)*1) (List.drop (0*1) (lm xs))))::(vi ((Zt xs xs.length:Nat):Int)::(dds 16 (.ptr 1 0::(.val (.bool true)::(.val (.bool true)::(vi ((Zt xs xs.length:Nat):Int)::(.val (.bool (decide (((Zt xs xs.length:Nat):Int)>0)))::(.val (.bool (decide (((Zt xs xs.length:Nat):Int)>0)))::(.ptr 1 1::(vl xs::(vi ((Zt xs xs.length:Nat):Int)::(.val (.sl ((Int.toNat ((Zt xs xs.length:Nat):Int))-0) (List.take (((Int.toNat ((Zt xs xs.length:Nat):Int))-0)*1) (List.drop (0*1) (lm xs))))::[]))))))))))))))))) (ex := .ret) Qf 300 [.b true] [1,2,3,4,21,22,23,24,25,26,27,28,29,30] (ac (show true=true from rfl) (ac (show 0<=((Zt xs xs.length:Nat):Int) from (Int.natCast_nonneg _)) (ac (show 0<=(Int.toNat ((Zt xs xs.length:Nat):Int))/\(Int.toNat ((Zt xs xs.length:Nat):Int))<=xs.length/\xs.length<=xs.length/\(false=true->true=true) from hsc) a0))))))) (by nofun) rfl
theorem P4 (xs:List Int) (hl:Za Yir (.loop Zv0) (Zc7 false xs.length (lm xs) (xs.length:Int)) (.exit 0) (Zc7 false xs.length (lm xs) ((Zt xs xs.length:Nat):Int))) (hsc:0<=(Int.toNat ((Zt xs xs.length:Nat):Int))/\(Int.toNat ((Zt xs xs.length:Nat):Int))<=xs.length/\xs.length<=xs.length/\(false=true->true=true)):Zc Yir 75 [.agg [.bool false,.sl xs.length (lm xs)]] (.tup [.bool false,.sl ((Int.toNat ((Zt xs xs.length:Nat):Int))-0) (List.take (((Int.toNat ((Zt xs xs.length:Nat):Int))-0)*1) (List.drop (0*1) (lm xs)))]):=Zc.of_bodyW (fn:=Zwg) (s:=(dds 1 (.box [.bool false,.sl xs.length (lm xs)]::(.val (.bool false)::(.val (.sl ((Int.toNat ((Zt xs xs.length:Nat):Int))-0) (List.take (((Int.toNat ((Zt xs xs.length:Nat):Int))-0)*1) (List.drop (0*1) (lm xs))))::(.val (.int .i64 ((Zt xs xs.length:Nat):Int))::(dds 16 (.ptr 1 0::(.val (.bool false)::(.val (.bool false)::(.val (.undef)::(.val (.undef)::(.val (.bool false)::(.ptr 1 1::(.val (.sl xs.length (lm xs))::(.val (.int .i64 ((Zt xs xs.length:Nat):Int))::(.val (.sl ((Int.toNat ((Zt xs xs.length:Nat):Int))-0) (List.take (((Int.toNat ((Zt xs xs.length:Nat):Int))-0)*1) (List.drop (0*1) (lm xs))))::[]))))))))))))))))) (ex := .ret) rfl rfl (Za.seq (Za.go (t:=(.val (.agg [.bool false,.sl xs.length (lm xs)])::(.box [.bool false,.sl xs.length (lm xs)]::(.val (.bool false)::(.own 1 0 []::(dds 27 [])))))) Qf 300 [] [0,1,2,3] a0) (Za.seq (Za.go (t:=(dds 1 (.box [.bool false,.sl xs.length (lm xs)]::(.val (.bool false)::(.own 1 0 []::(vi (xs.length:Int)::(dds 26 []))))))) Qf 300 [] [1,2,3,4] a0) (Za.seq (Za.block hl) (Za.go (t:=(dds 1 (.box [.bool false,.sl xs.length (lm xs)]::(.val (.bool false)::(.val (.sl ((Int.toNat ((Zt xs xs.length:Nat):Int))-0) (List.take (((Int.toNat ((Zt xs xs.length:Nat):Int))-0)*1) (List.drop (0*1) (lm xs))))::(vi ((Zt xs xs.length:Nat):Int)::(dds 16 (.ptr 1 0::(.val (.bool false)::(.val (.bool false)::(.val (.undef)::(.val (.undef)::(.val (.bool false)::(.ptr 1 1::(vl xs::(vi ((Zt xs xs.length:Nat):Int)::(.val (.sl ((Int.toNat ((Zt xs xs.length:Nat):Int))-0) (List.take (((Int.toNat ((Zt xs xs.length:Nat):Int))-0)*1) (List.drop (0*1) (lm xs))))::[]))))))))))))))))) (ex := .ret) Qf 300 [.b false] [1,2,3,4,21,22,23,24,25,26,27,28,29,30] (ac (show false=false from rfl) (ac (show 0<=((Zt xs xs.length:Nat):Int) from (Int.natCast_nonneg _)) (ac (show 0<=(Int.toNat ((Zt xs xs.length:Nat):Int))/\(Int.toNat ((Zt xs xs.length:Nat):Int))<=xs.length/\xs.length<=xs.length/\(false=true->true=true) from hsc) a0))))))) (by nofun) rfl
theorem Ro (xs:List Int):(Int.toNat ((Zt xs xs.length:Nat):Int)-0)=(Zj xs).length/\(List.take ((Int.toNat ((Zt xs xs.length:Nat):Int)-0)*1) (List.drop (0*1) (lm xs)))=lm (Zj xs)/\(0<=(Int.toNat ((Zt xs xs.length:Nat):Int))/\(Int.toNat ((Zt xs xs.length:Nat):Int))<=xs.length/\xs.length<=xs.length/\(false=true->true=true)):=by
 have hle:=Vh xs xs.length;rw[Int.toNat_natCast];refine⟨by simp[Zj];omega,by simp[lm,Zj,List.map_take],by omega,hle,Nat.le_refl _,fun h=>by cases h⟩
theorem Qv {neg:Bool} {xs:List Int} (hu:U32 xs) (hN:xs.length<=1048576):Zc Yir 75 [.agg [.bool neg,.sl xs.length (lm xs)]]
  (.tup [.bool (decide (rv neg xs<0)),.sl (Zb (rv neg xs).natAbs).length (lm (Zb (rv neg xs).natAbs))]):=by
 obtain⟨e1,e2,e3⟩:=Ro xs;have ht:=N7 (neg:=neg) hu;have hn:=Zoz (neg:=neg) hu;have hlen:(Zj xs).length=Zt xs xs.length:=by rw[<- e1,Int.toNat_natCast];rfl
 cases neg with
 | true =>
  have h:=S0 xs (Zhj true xs hN xs.length (Nat.le_refl _)) e3;rw[e2,e1,ht] at h;have e4:decide (((Zt xs xs.length:Nat):Int)>0)=decide (rv true xs<0):=by
   rw[<- hn,Bool.true_and,<- ht,hlen,decide_eq_decide];omega
  rw[e4] at h;exact h
 | false =>
  have h:=P4 xs (Zhj false xs hN xs.length (Nat.le_refl _)) e3;rw[e2,e1,ht] at h;rw[Bool.false_and] at hn;rw[<- hn];exact h
def D6 (neg:Bool) (N:Nat) (cs:List AV) (n:Int):Zg:=(.val (.bool neg)::(.val (.sl N cs)::(dds 2 (.box [.bool false,.sl 0 []]::(.val (.int .i64 n)::(dds 23 []))))))
theorem Ztb (neg:Bool) (N:Nat) (cs:List AV) (n:Int) (x:Int) (c1:(decide (n>0))=true) (c2:(x==0)=true) (n1:0<=(i64.wrap (n-1))/\(i64.wrap (n-1))<(N:Int)) (n2:Qg (List.drop (Int.toNat (i64.wrap (n-1))*1) cs) 0 1 true=some (.int .u32 x)):Za Yir Tg (D6 neg N cs n) .norm (D6 neg N cs (i64.wrap (n-1))):=Za.go Qf 300 [.b true,.v (.int .u32 x),.b true] [0,1,4,5] (ac c1 (ac n1 (ac n2 (ac c2 a0)))) (by kernel_rfl)
theorem Zta (neg:Bool) (N:Nat) (cs:List AV) (n:Int) (x:Int) (c1:(decide (n>0))=true) (c2:(x==0)=false) (n1:0<=(i64.wrap (n-1))/\(i64.wrap (n-1))<(N:Int)) (n2:Qg (List.drop (Int.toNat (i64.wrap (n-1))*1) cs) 0 1 true=some (.int .u32 x)):Za Yir Tg (D6 neg N cs n) (.exit 0) (D6 neg N cs n):=Za.go Qf 300 [.b true,.v (.int .u32 x),.b false] [0,1,4,5] (ac c1 (ac n1 (ac n2 (ac c2 a0)))) (by kernel_rfl)
theorem Zs9 (neg:Bool) (N:Nat) (cs:List AV) (n:Int) (c1:(decide (n>0))=false):Za Yir Tg (D6 neg N cs n) (.exit 0) (D6 neg N cs n):=Za.go Qf 300 [.b false,.b false] [0,1,4,5] (ac c1 (ac (show false=false from rfl) a0)) (by kernel_rfl)
theorem Zmy (neg:Bool) (xs:List Int) (hN:xs.length<=1048576):∀ m,m<=xs.length->Za Yir (.loop Tg) (D6 neg xs.length (lm xs) (m:Int)) (.exit 0) (D6 neg xs.length (lm xs) ((Zt xs m:Nat):Int)):=by
 intro m;induction m with
 | zero =>
  intro _;exact Za.loop_out (Zs9 neg xs.length (lm xs) ((0:Nat):Int) (by simp)) (by nofun)
 | succ m ih =>
  intro hm;have e1:i64.wrap (((m+1:Nat):Int)-1)=(m:Int):=by rw[w64 (by omega) (by omega)];omega
  have hx:=Xt (xs:=xs) (i:=m) (by omega);simp only[Zt];by_cases h0:xs.getD m 0=0
  ·rw[if_pos h0];have h1:=Ztb neg xs.length (lm xs) ((m+1:Nat):Int) (xs.getD m 0) (by simp) (by rw[h0];rfl) (by rw[e1];omega) (by rw[e1,Int.toNat_natCast];exact hx);rw[e1] at h1;exact Za.loop h1 (ih (by omega))
  ·rw[if_neg h0];exact Za.loop_out (Zta neg xs.length (lm xs) ((m+1:Nat):Int) (xs.getD m 0) (by simp) (by simpa using h0) (by rw[e1];omega) (by rw[e1,Int.toNat_natCast];exact hx)) (by nofun)
theorem Zg2 (neg:Bool) (xs:List Int) (hz:(((Zt xs xs.length:Nat):Int)==0)=true) (hl:Za Yir (.loop Tg) (D6 neg xs.length (lm xs) (xs.length:Int)) (.exit 0) (D6 neg xs.length (lm xs) ((Zt xs xs.length:Nat):Int))):Zc Yir 113 [.bool neg,.sl xs.length (lm xs)] (.agg [.bool false,.sl 0 []]):=Zc.of_bodyW (fn:=Zcz) (s:=(.val (.bool neg)::(.val (.sl xs.length (lm xs))::(dds 2 (.box [.bool false,.sl 0 []]::(.val (.int .i64 ((Zt xs xs.length:Nat):Int))::(dds 14 (.val (.int .i64 ((Zt xs xs.length:Nat):Int))::(.val (.bool (((Zt xs xs.length:Nat):Int)==0))::(.val (.agg [.bool false,.sl 0 []])::(dds 6 []))))))))))) (ex := .ret) rfl rfl (Za.seq (Za.go (t:=(.val (.bool neg)::(vl xs::(dds 2 (.box [.bool false,.sl 0 []]::(dds 24 [])))))) Qf 300 [] [0,1,4] a0) (Za.seq (Za.go (t:=(.val (.bool neg)::(vl xs::(dds 2 (.box [.bool false,.sl 0 []]::(vi (xs.length:Int)::(dds 23 []))))))) Qf 300 [] [0,1,4,5] a0) (Za.seq (Za.block hl) (Za.go (t:=(.val (.bool neg)::(vl xs::(dds 2 (.box [.bool false,.sl 0 []]::(vi ((Zt xs xs.length:Nat):Int)::(dds 14 (vi ((Zt xs xs.length:Nat):Int)::(.val (.bool (((Zt xs xs.length:Nat):Int)==0))::(.val (.agg [.bool false,.sl 0 []])::(dds 6 []))))))))))) (ex := .ret) Qf 300 [.b true] [0,1,4,5,20,21,22] (ac (show (((Zt xs xs.length:Nat):Int)==0)=true from hz) a0))))) (by nofun) rfl
theorem Zg3 (neg:Bool) (xs:List Int) (hz:(((Zt xs xs.length:Nat):Int)==0)=false) (hl:Za Yir (.loop Tg) (D6 neg xs.length (lm xs) (xs.length:Int)) (.exit 0) (D6 neg xs.length (lm xs) ((Zt xs xs.length:Nat):Int))) (hsc:0<=(Int.toNat ((Zt xs xs.length:Nat):Int))/\(Int.toNat ((Zt xs xs.length:Nat):Int))<=(Int.toNat ((Zt xs xs.length:Nat):Int))/\(Int.toNat ((Zt xs xs.length:Nat):Int))<=xs.length/\(true=true->true=true)):Zc Yir 113 [.bool neg,.sl xs.length (lm xs)] (.agg [.bool neg,.sl ((Int.toNat ((Zt xs xs.length:Nat):Int))-0) (List.take (((Int.toNat ((Zt xs xs.length:Nat):Int))-0)*1) (List.drop (0*1) (lm xs)))]):=Zc.of_bodyW (fn:=Zcz) (s:=(.val (.bool neg)::(.val (.sl xs.length (lm xs))::(dds 2 (.box [.bool neg,.sl ((Int.toNat ((Zt xs xs.length:Nat):Int))-0) (List.take (((Int.toNat ((Zt xs xs.length:Nat):Int))-0)*1) (List.drop (0*1) (lm xs)))]::(.val (.int .i64 ((Zt xs xs.length:Nat):Int))::(dds 14 (.val (.int .i64 ((Zt xs xs.length:Nat):Int))::(.val (.bool (((Zt xs xs.length:Nat):Int)==0))::(dds 1 (.val (.bool neg)::(.val (.sl xs.length (lm xs))::(.val (.int .i64 ((Zt xs xs.length:Nat):Int))::(.val (.int .i64 ((Zt xs xs.length:Nat):Int))::(.val (.sl ((Int.toNat ((Zt xs xs.length:Nat):Int))-0) (List.take (((Int.toNat ((Zt xs xs.length:Nat):Int))-0)*1) (List.drop (0*1) (lm xs))))::(.val (.agg [.bool neg,.sl ((Int.toNat ((Zt xs xs.length:Nat):Int))-0) (List.take (((Int.toNat ((Zt xs xs.length:Nat):Int))-0)*1) (List.drop (0*1) (lm xs)))])::[])))))))))))))))) (ex := .ret) rfl rfl (Za.seq (Za.go (t:=(.val (.bool neg)::(vl xs::(dds 2 (.box [.bool false,.sl 0 []]::(dds 24 [])))))) Qf 300 [] [0,1,4] a0) (Za.seq (Za.go (t:=(.val (.bool neg)::(vl xs::(dds 2 (.box [.bool false,.sl 0 []]::(vi (xs.length:Int)::(dds 23 []))))))) Qf 300 [] [0,1,4,5] a0) (Za.seq (Za.block hl) (Za.go (t:=(.val (.bool neg)::(vl xs::(dds 2 (.box [.bool neg,.sl ((Int.toNat ((Zt xs xs.length:Nat):Int))-0) (List.take (((Int.toNat ((Zt xs xs.length:Nat):Int))-0)*1) (List.drop (0*1) (lm xs)))]::(vi ((Zt xs xs.length:Nat):Int)::(dds 14 (vi ((Zt xs xs.length:Nat):Int)::(.val (.bool (((Zt xs xs.length:Nat):Int)==0))::(dds 1 (.val (.bool neg)::(vl xs::(vi ((Zt xs xs.length:Nat):Int)::(vi ((Zt xs xs.length:Nat):Int)::(.val (.sl ((Int.toNat ((Zt xs xs.length:Nat):Int))-0) (List.take (((Int.toNat ((Zt xs xs.length:Nat):Int))-0)*1) (List.drop (0*1) (lm xs))))::(.val (.agg [.bool neg,.sl ((Int.toNat ((Zt xs xs.length:Nat):Int))-0) (List.take (((Int.toNat ((Zt xs xs.length:Nat):Int))-0)*1) (List.drop (0*1) (lm xs)))])::[])))))))))))))))) (ex := .ret) Qf 300 [.b false] [0,1,4,5,20,21,23,24,25,26,27,28] (ac (show (((Zt xs xs.length:Nat):Int)==0)=false from hz) (ac (show 0<=((Zt xs xs.length:Nat):Int) from (Int.natCast_nonneg _)) (ac (show 0<=((Zt xs xs.length:Nat):Int) from (Int.natCast_nonneg _)) (ac (show 0<=(Int.toNat ((Zt xs xs.length:Nat):Int))/\(Int.toNat ((Zt xs xs.length:Nat):Int))<=(Int.toNat ((Zt xs xs.length:Nat):Int))/\(Int.toNat ((Zt xs xs.length:Nat):Int))<=xs.length/\(true=true->true=true) from hsc) a0)))))))) (by nofun) rfl
theorem J0 {neg:Bool} {xs:List Int} (hu:U32 xs) (hN:xs.length<=1048576):Zc Yir 113 [.bool neg,.sl xs.length (lm xs)] (Zi (rv neg xs)):=by
 obtain⟨e1,e2,e3⟩:=Ro xs;have ht:=N7 (neg:=neg) hu;have hn:=Zoz (neg:=neg) hu;have hlen:(Zj xs).length=Zt xs xs.length:=by rw[<- e1,Int.toNat_natCast];rfl
 have hl:=Zmy neg xs hN xs.length (Nat.le_refl _);by_cases h0:Zt xs xs.length=0
 ·have h:=Zg2 neg xs (by rw[h0];rfl) hl;have hz:(Zb (rv neg xs).natAbs).length=0:=by rw[<- ht,hlen,h0]
  have hv:rv neg xs=0:=by have:=(Ju _).1 hz;omega
  rw[hv];exact h
 ·have h:=Zg3 neg xs (by rw[beq_eq_false_iff_ne];omega) hl ⟨e3.1,Nat.le_refl _,e3.2.1,fun _=>rfl⟩;rw[e2,e1,ht] at h;have hp:decide (0<(Zb (rv neg xs).natAbs).length)=true:=by rw[<- ht,hlen];simp;omega
  rw[hp,Bool.and_true] at hn;rw[Zi,<- hn];exact h
theorem Zhb (n:Int) (c1:decide (n<0)=true) (hcall:Zc Yir 113 [.bool (decide (n<0)),.sl 2 [.int .u32 (u32.wrap (u64.wrap (0-(u64.wrap n)))),.int .u32 (u32.wrap (Int.fdiv (u64.wrap (0-(u64.wrap n))) (2^(min (Int.toNat 32) (IntKind.bits .u64)))))]] (.agg [.bool (decide (n<0)),.sl ((Zb (Int.natAbs n)).length) (lm (Zb (Int.natAbs n)))])):Zc Yir 108 [.int .i64 n] (.agg [.bool (decide (n<0)),.sl ((Zb (Int.natAbs n)).length) (lm (Zb (Int.natAbs n)))]):=Zc.script (ps:=[(decide (n<0))=true,¬ (32:Int)<0,Zc Yir 113 [.bool (decide (n<0)),.sl 2 [.int .u32 (u32.wrap (u64.wrap (0-(u64.wrap n)))),.int .u32 (u32.wrap (Int.fdiv (u64.wrap (0-(u64.wrap n))) (2^(min (Int.toNat 32) (IntKind.bits .u64)))))]] (.agg [.bool (decide (n<0)),.sl ((Zb (Int.natAbs n)).length) (lm (Zb (Int.natAbs n)))])]) Qf rfl 300 rfl [.b true,.r (.agg [.bool (decide (n<0)),.sl ((Zb (Int.natAbs n)).length) (lm (Zb (Int.natAbs n)))])] (by kernel_rfl) ⟨c1,(by decide),hcall,trivial⟩
theorem Zha (n:Int) (c1:decide (n<0)=false) (hcall:Zc Yir 113 [.bool (decide (n<0)),.sl 2 [.int .u32 (u32.wrap (u64.wrap n)),.int .u32 (u32.wrap (Int.fdiv (u64.wrap n) (2^(min (Int.toNat 32) (IntKind.bits .u64)))))]] (.agg [.bool (decide (n<0)),.sl ((Zb (Int.natAbs n)).length) (lm (Zb (Int.natAbs n)))])):Zc Yir 108 [.int .i64 n] (.agg [.bool (decide (n<0)),.sl ((Zb (Int.natAbs n)).length) (lm (Zb (Int.natAbs n)))]):=Zc.script (ps:=[(decide (n<0))=false,¬ (32:Int)<0,Zc Yir 113 [.bool (decide (n<0)),.sl 2 [.int .u32 (u32.wrap (u64.wrap n)),.int .u32 (u32.wrap (Int.fdiv (u64.wrap n) (2^(min (Int.toNat 32) (IntKind.bits .u64)))))]] (.agg [.bool (decide (n<0)),.sl ((Zb (Int.natAbs n)).length) (lm (Zb (Int.natAbs n)))])]) Qf rfl 300 rfl [.b false,.r (.agg [.bool (decide (n<0)),.sl ((Zb (Int.natAbs n)).length) (lm (Zb (Int.natAbs n)))])] (by kernel_rfl) ⟨c1,(by decide),hcall,trivial⟩
theorem Zp2 {n:Int} (hn : -9223372036854775808<=n/\n<=9223372036854775807):Zc Yir 108 [.int .i64 n] (Zi n):=by
 cases c1:decide (n<0) with
 | true =>
  have h0:n<0:=by simpa using c1
  have eu:(u64.wrap (0-u64.wrap n)) = -n:=by rw[Js,Js];omega
  obtain⟨k1,k2⟩:=G6 (u:=(u64.wrap (0-u64.wrap n))) (by rw[eu];omega);refine Zhb n c1 ?_;have:=J0 (neg:=true) k1 (by simp);have e:rv true [u32.wrap (u64.wrap (0-u64.wrap n)),u32.wrap (Int.fdiv (u64.wrap (0-u64.wrap n)) (2^(min (Int.toNat 32) (IntKind.bits .u64))))]=n:=by
   unfold rv;rw[k2,if_pos rfl,eu];omega
  rw[e,Zi,c1] at this;rw[c1];exact this
 | false =>
  have h0:¬ n<0:=by simpa using c1
  have eu:u64.wrap n=n:=by rw[Js];omega
  obtain⟨k1,k2⟩:=G6 (u:=u64.wrap n) (by rw[eu];omega);refine Zha n c1 ?_;have:=J0 (neg:=false) k1 (by simp);have e:rv false [u32.wrap (u64.wrap n),u32.wrap (Int.fdiv (u64.wrap n) (2^(min (Int.toNat 32) (IntKind.bits .u64))))]=n:=by
   unfold rv;rw[if_neg (by decide),k2,eu]
  rw[e,Zi,c1] at this;rw[c1];exact this
theorem Zrp (neg:Bool) (xs:List Int) (a r:Int) (h1:Zc Yir 75 [.agg [.bool neg,.sl xs.length (lm xs)]] (.tup [.bool (decide (a<0)),.sl ((Zb (Int.natAbs a)).length) (lm (Zb (Int.natAbs a)))])) (h2:Zc Yir 113 [.bool (decide (a<0)),.sl (Zb (Int.natAbs a)).length (lm (Zb (Int.natAbs a)))] (.agg [.bool (decide (r<0)),.sl ((Zb (Int.natAbs r)).length) (lm (Zb (Int.natAbs r)))])) (hal:List.length (lm (Zb (Int.natAbs a)))=(Zb (Int.natAbs a)).length*1) (han:(Zb (Int.natAbs a)).length<=1048576):Zc Yir 124 [.agg [.bool neg,.sl xs.length (lm xs)]] (.agg [.bool (decide (r<0)),.sl ((Zb (Int.natAbs r)).length) (lm (Zb (Int.natAbs r)))]):=Zc.script (ps:=[Zc Yir 75 [.agg [.bool neg,.sl xs.length (lm xs)]] (.tup [.bool (decide (a<0)),.sl ((Zb (Int.natAbs a)).length) (lm (Zb (Int.natAbs a)))]),List.length (lm (Zb (Int.natAbs a)))=((Zb (Int.natAbs a)).length)*1,((Zb (Int.natAbs a)).length)<=35184372088832,Zc Yir 113 [.bool (decide (a<0)),.sl ((Zb (Int.natAbs a)).length) (lm (Zb (Int.natAbs a)))] (.agg [.bool (decide (r<0)),.sl ((Zb (Int.natAbs r)).length) (lm (Zb (Int.natAbs r)))])]) Qf rfl 300 rfl [.r (.tup [.bool (decide (a<0)),.sl ((Zb (Int.natAbs a)).length) (lm (Zb (Int.natAbs a)))]),.r (.agg [.bool (decide (r<0)),.sl ((Zb (Int.natAbs r)).length) (lm (Zb (Int.natAbs r)))])] (by kernel_rfl) ⟨h1,hal,(Nat.le_trans han (by decide)),h2,trivial⟩
theorem Zrs (neg:Bool) (xs:List Int) (a r:Int) (h1:Zc Yir 75 [.agg [.bool neg,.sl xs.length (lm xs)]] (.tup [.bool (decide (a<0)),.sl ((Zb (Int.natAbs a)).length) (lm (Zb (Int.natAbs a)))])) (h2:Zc Yir 113 [.bool (!(decide (a<0))),.sl (Zb (Int.natAbs a)).length (lm (Zb (Int.natAbs a)))] (.agg [.bool (decide (r<0)),.sl ((Zb (Int.natAbs r)).length) (lm (Zb (Int.natAbs r)))])) (hal:List.length (lm (Zb (Int.natAbs a)))=(Zb (Int.natAbs a)).length*1) (han:(Zb (Int.natAbs a)).length<=1048576):Zc Yir 107 [.agg [.bool neg,.sl xs.length (lm xs)]] (.agg [.bool (decide (r<0)),.sl ((Zb (Int.natAbs r)).length) (lm (Zb (Int.natAbs r)))]):=Zc.script (ps:=[Zc Yir 75 [.agg [.bool neg,.sl xs.length (lm xs)]] (.tup [.bool (decide (a<0)),.sl ((Zb (Int.natAbs a)).length) (lm (Zb (Int.natAbs a)))]),List.length (lm (Zb (Int.natAbs a)))=((Zb (Int.natAbs a)).length)*1,((Zb (Int.natAbs a)).length)<=35184372088832,Zc Yir 113 [.bool (!(decide (a<0))),.sl ((Zb (Int.natAbs a)).length) (lm (Zb (Int.natAbs a)))] (.agg [.bool (decide (r<0)),.sl ((Zb (Int.natAbs r)).length) (lm (Zb (Int.natAbs r)))])]) Qf rfl 300 rfl [.r (.tup [.bool (decide (a<0)),.sl ((Zb (Int.natAbs a)).length) (lm (Zb (Int.natAbs a)))]),.r (.agg [.bool (decide (r<0)),.sl ((Zb (Int.natAbs r)).length) (lm (Zb (Int.natAbs r)))])] (by kernel_rfl) ⟨h1,hal,(Nat.le_trans han (by decide)),h2,trivial⟩
theorem Zag (xs:List Int):List.length (lm xs)=xs.length*1:=by rw [F8,Nat.mul_one]
theorem rv_pos (n:Int):rv false (Zb n.natAbs)=(n.natAbs:Int):=by unfold rv;rw [if_neg (by decide),Jg]
theorem Zov (n:Int):rv (!decide (n<0)) (Zb n.natAbs) = -n:=by
 unfold rv;rw[Jg];by_cases h:n<0 <;> simp[h] <;> omega
theorem Gu {neg:Bool} {xs:List Int} (hu:U32 xs) (hN:xs.length<=1048576):Zc Yir 124 [.agg [.bool neg,.sl xs.length (lm xs)]] (Zi (rv neg xs)):=by
 have hl:(Zb (rv neg xs).natAbs).length<=1048576:=Nat.le_trans (Vl hu) hN;have h2:=J0 (neg:=decide (rv neg xs<0)) (Q6 (rv neg xs).natAbs) hl;rw[W9] at h2;exact Zrp neg xs (rv neg xs) (rv neg xs) (Qv hu hN) h2 (Zag _) hl
theorem Th {neg:Bool} {xs:List Int} (hu:U32 xs) (hN:xs.length<=1048576):Zc Yir 107 [.agg [.bool neg,.sl xs.length (lm xs)]] (Zi (-(rv neg xs))):=by
 have hl:(Zb (rv neg xs).natAbs).length<=1048576:=Nat.le_trans (Vl hu) hN;have h2:=J0 (neg := !decide (rv neg xs<0)) (Q6 (rv neg xs).natAbs) hl;rw[Zov] at h2;exact Zrs neg xs (rv neg xs) (-(rv neg xs)) (Qv hu hN) h2 (Zag _) hl
def Zk4 (a:Int):AV :=
 match (((Zb (Int.natAbs a)).length:Nat):Int)==0 with
 | true=>(.int .i64 0)
 | false=>(match decide (a<0) with
 | true=>(.int .i64 (-1))
 | false=>(.int .i64 1))
theorem Yrun74 (neg:Bool) (xs:List Int) (a:Int) (h1:Zc Yir 75 [.agg [.bool neg,.sl xs.length (lm xs)]] (.tup [.bool (decide (a<0)),.sl ((Zb (Int.natAbs a)).length) (lm (Zb (Int.natAbs a)))])):Zc Yir 74 [.agg [.bool neg,.sl xs.length (lm xs)]] (Zk4 a):=by
 unfold Zk4;cases c1:((((Zb (Int.natAbs a)).length:Nat):Int)==0)
 ·cases c2:(decide (a<0))
  ·exact Zc.script (r := .int .i64 1) (ps:=[Zc Yir 75 [.agg [.bool neg,.sl xs.length (lm xs)]] (.tup [.bool (decide (a<0)),.sl ((Zb (Int.natAbs a)).length) (lm (Zb (Int.natAbs a)))]),((((Zb (Int.natAbs a)).length:Nat):Int)==0)=false,(decide (a<0))=false]) Qf rfl 300 rfl [.r (.tup [.bool (decide (a<0)),.sl ((Zb (Int.natAbs a)).length) (lm (Zb (Int.natAbs a)))]),.b false,.b false] (by kernel_rfl) ⟨h1,c1,c2,trivial⟩
  ·exact Zc.script (r := .int .i64 (-1)) (ps:=[Zc Yir 75 [.agg [.bool neg,.sl xs.length (lm xs)]] (.tup [.bool (decide (a<0)),.sl ((Zb (Int.natAbs a)).length) (lm (Zb (Int.natAbs a)))]),((((Zb (Int.natAbs a)).length:Nat):Int)==0)=false,(decide (a<0))=true]) Qf rfl 300 rfl [.r (.tup [.bool (decide (a<0)),.sl ((Zb (Int.natAbs a)).length) (lm (Zb (Int.natAbs a)))]),.b false,.b true] (by kernel_rfl) ⟨h1,c1,c2,trivial⟩
 ·exact Zc.script (r := .int .i64 0) (ps:=[Zc Yir 75 [.agg [.bool neg,.sl xs.length (lm xs)]] (.tup [.bool (decide (a<0)),.sl ((Zb (Int.natAbs a)).length) (lm (Zb (Int.natAbs a)))]),((((Zb (Int.natAbs a)).length:Nat):Int)==0)=true]) Qf rfl 300 rfl [.r (.tup [.bool (decide (a<0)),.sl ((Zb (Int.natAbs a)).length) (lm (Zb (Int.natAbs a)))]),.b true] (by kernel_rfl) ⟨h1,c1,trivial⟩
theorem Kl {neg:Bool} {xs:List Int} (hu:U32 xs) (hN:xs.length<=1048576):Zc Yir 74 [.agg [.bool neg,.sl xs.length (lm xs)]] (.int .i64 (Wa (rv neg xs))):=by
 have h:=Yrun74 neg xs (rv neg xs) (Qv hu hN);have e:Zk4 (rv neg xs) = .int .i64 (Wa (rv neg xs)):=by
  unfold Zk4 Wa;have hz:=Ju (rv neg xs).natAbs;by_cases h0:rv neg xs=0
  ·rw[h0];rfl
  ·have e1:((((Zb (rv neg xs).natAbs).length:Nat):Int)==0)=false:=by rw[beq_eq_false_iff_ne];omega
   rw[e1];by_cases h1:rv neg xs<0
   ·simp[h1]
   ·have h2:0<rv neg xs:=by omega
    simp[h1,h2]
 rw[<- e];exact h
def TWA:Jx:=TQ0
theorem Zr:Qn Yir TWA:=Qf
end Go.Proofs.Ythdpfjffdipipaa

namespace Go.Proofs.Ythdpfjffdipipaa
open Go.IntKind (i64 u64 u32)
open Go.Ai
set_option maxRecDepth 100000
def Hy (N:Nat) (cs:List AV) (M:Nat) (ds:List AV) (v i:Int):Zg:=(.val (.sl N cs)::(.val (.sl M ds)::(dds 2 (.val (.int .i64 v)::(.val (.int .i64 i)::(dds 35 []))))))
theorem Zs8 (N:Nat) (cs:List AV) (M:Nat) (ds:List AV) (v i x y:Int) (c1:(decide (i>=0))=true) (c2:(x != y)=true) (c3:(decide (x<y))=true) (n1:0<=i/\i<(N:Int)) (n2:Qg (List.drop (Int.toNat i*1) cs) 0 1 true=some (.int .u32 x)) (n3:0<=i/\i<(M:Int)) (n4:Qg (List.drop (Int.toNat i*1) ds) 0 1 true=some (.int .u32 y)) (n5:0<=i/\i<(N:Int)) (n6:Qg (List.drop (Int.toNat i*1) cs) 0 1 true=some (.int .u32 x)) (n7:0<=i/\i<(M:Int)) (n8:Qg (List.drop (Int.toNat i*1) ds) 0 1 true=some (.int .u32 y)):Za Yir Lc (Hy N cs M ds v i) .ret (Hy N cs M ds (-1) i):=Za.go Zr 300 [.b true,.v (.int .u32 x),.v (.int .u32 y),.b true,.v (.int .u32 x),.v (.int .u32 y),.b true] [0,1,4,5] (ac c1 (ac n1 (ac n2 (ac n3 (ac n4 (ac c2 (ac n5 (ac n6 (ac n7 (ac n8 (ac c3 a0))))))))))) (by kernel_rfl)
theorem Zs7 (N:Nat) (cs:List AV) (M:Nat) (ds:List AV) (v i x y:Int) (c1:(decide (i>=0))=true) (c2:(x != y)=true) (c3:(decide (x<y))=false) (n1:0<=i/\i<(N:Int)) (n2:Qg (List.drop (Int.toNat i*1) cs) 0 1 true=some (.int .u32 x)) (n3:0<=i/\i<(M:Int)) (n4:Qg (List.drop (Int.toNat i*1) ds) 0 1 true=some (.int .u32 y)) (n5:0<=i/\i<(N:Int)) (n6:Qg (List.drop (Int.toNat i*1) cs) 0 1 true=some (.int .u32 x)) (n7:0<=i/\i<(M:Int)) (n8:Qg (List.drop (Int.toNat i*1) ds) 0 1 true=some (.int .u32 y)):Za Yir Lc (Hy N cs M ds v i) .ret (Hy N cs M ds 1 i):=Za.go Zr 300 [.b true,.v (.int .u32 x),.v (.int .u32 y),.b true,.v (.int .u32 x),.v (.int .u32 y),.b false] [0,1,4,5] (ac c1 (ac n1 (ac n2 (ac n3 (ac n4 (ac c2 (ac n5 (ac n6 (ac n7 (ac n8 (ac c3 a0))))))))))) (by kernel_rfl)
theorem Zs6 (N:Nat) (cs:List AV) (M:Nat) (ds:List AV) (v i x y:Int) (c1:(decide (i>=0))=true) (c2:(x != y)=false) (n1:0<=i/\i<(N:Int)) (n2:Qg (List.drop (Int.toNat i*1) cs) 0 1 true=some (.int .u32 x)) (n3:0<=i/\i<(M:Int)) (n4:Qg (List.drop (Int.toNat i*1) ds) 0 1 true=some (.int .u32 y)):Za Yir Lc (Hy N cs M ds v i) .norm (Hy N cs M ds v (i64.wrap (i-1))):=Za.go Zr 300 [.b true,.v (.int .u32 x),.v (.int .u32 y),.b false] [0,1,4,5] (ac c1 (ac n1 (ac n2 (ac n3 (ac n4 (ac c2 a0)))))) (by kernel_rfl)
theorem Zs5 (N:Nat) (cs:List AV) (M:Nat) (ds:List AV) (v i:Int) (c1:(decide (i>=0))=false):Za Yir Lc (Hy N cs M ds v i) (.exit 0) (Hy N cs M ds v i):=Za.go Zr 300 [.b false] [0,1,4,5] (ac c1 a0) (by kernel_rfl)
theorem Zmx (xs ys:List Int) (hN:xs.length<=1048576) (hl:xs.length=ys.length):∀ m,m<=xs.length ->
  (Pp xs ys m=0/\Za Yir (.loop Lc) (Hy xs.length (lm xs) ys.length (lm ys) 0 ((m:Int)-1)) (.exit 0) (Hy xs.length (lm xs) ys.length (lm ys) 0 (-1))) \/
  (Pp xs ys m ≠ 0/\∃ j,Za Yir (.loop Lc) (Hy xs.length (lm xs) ys.length (lm ys) 0 ((m:Int)-1)) .ret (Hy xs.length (lm xs) ys.length (lm ys) (Pp xs ys m) j)):=by
 intro m;induction m with
 | zero =>
  intro _;left;refine⟨rfl,?_⟩;exact Za.loop_out (Zs5 xs.length (lm xs) ys.length (lm ys) 0 (((0:Nat):Int)-1) (by simp)) (by nofun)
 | succ m ih =>
  intro hm;have e0:((m+1:Nat):Int)-1=(m:Int):=by omega
  have e1:i64.wrap ((m:Int)-1)=(m:Int)-1:=w64 (by omega) (by omega);have hx:=Xt (xs:=xs) (i:=m) (by omega);have hy:=Xt (xs:=ys) (i:=m) (by omega);rw[e0];simp only[Pp];by_cases h:xs.getD m 0=ys.getD m 0
  ·rw[if_pos h];have h1:=Zs6 xs.length (lm xs) ys.length (lm ys) 0 (m:Int) (xs.getD m 0) (ys.getD m 0) (by simp) (by simpa using h) (by omega) (by rw[Int.toNat_natCast];exact hx) (by omega) (by rw[Int.toNat_natCast];exact hy);rw[e1] at h1;rcases ih (by omega) with ⟨k1,k2⟩ | ⟨k1,j,k2⟩
   ·exact .inl ⟨k1,Za.loop h1 k2⟩
   ·exact .inr ⟨k1,j,Za.loop h1 k2⟩
  ·rw[if_neg h];right;by_cases hlt:xs.getD m 0<ys.getD m 0
   ·rw[if_pos hlt];refine⟨by decide,(m:Int),?_⟩;exact Za.loop_out (Zs8 xs.length (lm xs) ys.length (lm ys) 0 (m:Int) (xs.getD m 0) (ys.getD m 0) (by simp) (by simpa using h) (by simpa using hlt) (by omega) (by rw[Int.toNat_natCast];exact hx) (by omega) (by rw[Int.toNat_natCast];exact hy) (by omega) (by rw[Int.toNat_natCast];exact hx) (by omega) (by rw[Int.toNat_natCast];exact hy)) (by nofun)
   ·rw[if_neg hlt];refine⟨by decide,(m:Int),?_⟩;exact Za.loop_out (Zs7 xs.length (lm xs) ys.length (lm ys) 0 (m:Int) (xs.getD m 0) (ys.getD m 0) (by simp) (by simpa using h) (by simpa using hlt) (by omega) (by rw[Int.toNat_natCast];exact hx) (by omega) (by rw[Int.toNat_natCast];exact hy) (by omega) (by rw[Int.toNat_natCast];exact hx) (by omega) (by rw[Int.toNat_natCast];exact hy)) (by nofun)
theorem Zcu (xs ys:List Int) (h:((xs.length:Int) != (ys.length:Int))=true) (h2:(decide ((xs.length:Int)<(ys.length:Int)))=true):Zc Yir 118 [.sl xs.length (lm xs),.sl ys.length (lm ys)] (.int .i64 (-1)):=Zc.script (ps:=[((xs.length:Int) != (ys.length:Int))=true,(decide ((xs.length:Int)<(ys.length:Int)))=true]) Zr rfl 300 rfl [.b true,.b true] (by kernel_rfl) ⟨h,h2,trivial⟩
theorem Zcv (xs ys:List Int) (h:((xs.length:Int) != (ys.length:Int))=true) (h2:(decide ((xs.length:Int)<(ys.length:Int)))=false):Zc Yir 118 [.sl xs.length (lm xs),.sl ys.length (lm ys)] (.int .i64 1):=Zc.script (ps:=[((xs.length:Int) != (ys.length:Int))=true,(decide ((xs.length:Int)<(ys.length:Int)))=false]) Zr rfl 300 rfl [.b true,.b false] (by kernel_rfl) ⟨h,h2,trivial⟩
theorem Zcw (xs ys:List Int) (h:((xs.length:Int) != (ys.length:Int))=false) (hl:Za Yir (.loop Lc) (Hy xs.length (lm xs) ys.length (lm ys) 0 (i64.wrap ((xs.length:Int)-1))) (.exit 0) (Hy xs.length (lm xs) ys.length (lm ys) 0 (-1))):Zc Yir 118 [.sl xs.length (lm xs),.sl ys.length (lm ys)] (.int .i64 0):=Zc.of_bodyW (fn:=Zcy) (s:=(.val (.sl xs.length (lm xs))::(.val (.sl ys.length (lm ys))::(dds 2 (.val (.int .i64 0)::(.val (.int .i64 (-1))::(dds 35 []))))))) (ex := .ret) rfl rfl (Za.seq (Za.go (t:=(vl xs::(vl ys::(dds 2 (vi 0::(dds 36 [])))))) Zr 300 [] [0,1,4] a0) (Za.seq (Za.go (t:=(vl xs::(vl ys::(dds 2 (vi 0::(dds 1 (vl xs::(vi (xs.length:Int)::(vl ys::(vi (ys.length:Int)::(.val (.bool ((xs.length:Int) != (ys.length:Int)))::(dds 30 [])))))))))))) Zr 300 [.b false] [0,1,4,6,7,8,9,10] (ac (show ((xs.length:Int) != (ys.length:Int))=false from h) a0)) (Za.seq (Za.seq (Za.go (t:=(vl xs::(vl ys::(dds 2 (vi 0::(vi (i64.wrap ((xs.length:Int)-1))::(dds 35 []))))))) Zr 300 [] [0,1,4,5] a0) (Za.block hl)) (Za.go (t:=(vl xs::(vl ys::(dds 2 (vi 0::(vi (-1)::(dds 35 []))))))) (ex := .ret) Zr 300 [] [0,1,4,5] a0)))) (by nofun) rfl
theorem Zct (xs ys:List Int) (r j:Int) (h:((xs.length:Int) != (ys.length:Int))=false) (hl:Za Yir (.loop Lc) (Hy xs.length (lm xs) ys.length (lm ys) 0 (i64.wrap ((xs.length:Int)-1))) .ret (Hy xs.length (lm xs) ys.length (lm ys) r j)):Zc Yir 118 [.sl xs.length (lm xs),.sl ys.length (lm ys)] (.int .i64 r):=Zc.of_bodyW (fn:=Zcy) (s:=(.val (.sl xs.length (lm xs))::(.val (.sl ys.length (lm ys))::(dds 2 (.val (.int .i64 r)::(.val (.int .i64 j)::(dds 35 []))))))) (ex := .ret) rfl rfl (Za.seq (Za.go (t:=(vl xs::(vl ys::(dds 2 (vi 0::(dds 36 [])))))) Zr 300 [] [0,1,4] a0) (Za.seq (Za.go (t:=(vl xs::(vl ys::(dds 2 (vi 0::(dds 1 (vl xs::(vi (xs.length:Int)::(vl ys::(vi (ys.length:Int)::(.val (.bool ((xs.length:Int) != (ys.length:Int)))::(dds 30 [])))))))))))) Zr 300 [.b false] [0,1,4,6,7,8,9,10] (ac (show ((xs.length:Int) != (ys.length:Int))=false from h) a0)) (Za.seq_out (Za.seq (Za.go (t:=(vl xs::(vl ys::(dds 2 (vi 0::(vi (i64.wrap ((xs.length:Int)-1))::(dds 35 []))))))) Zr 300 [] [0,1,4,5] a0) (Za.block_ret hl)) (by nofun)))) (by nofun) rfl
theorem V6 {xs ys:List Int} (hx:Hg xs) (hy:Hg ys) (hN:xs.length<=1048576):Zc Yir 118 [.sl xs.length (lm xs),.sl ys.length (lm ys)] (.int .i64 (U6 (Zn xs) (Zn ys))):=by
 by_cases hl:xs.length=ys.length
 ·have h:((xs.length:Int) != (ys.length:Int))=false:=by rw[hl];simp
  have hg:=Zkv hx.1 hy.1 xs.length (Nat.le_refl _) (by omega);rw[List.take_length,hl,List.take_length,<- hl] at hg;have e1:i64.wrap ((xs.length:Int)-1)=(xs.length:Int)-1:=w64 (by omega) (by omega);rcases Zmx xs ys hN hl xs.length (Nat.le_refl _) with ⟨k1,k2⟩ | ⟨k1,j,k2⟩
  ·rw[<- hg,k1];exact Zcw xs ys h (by rw[e1];exact k2)
  ·rw[<- hg];exact Zct xs ys _ j h (by rw[e1];exact k2)
 ·have h:((xs.length:Int) != (ys.length:Int))=true:=by simp;omega
  by_cases hlt:xs.length<ys.length
  ·have e:U6 (Zn xs) (Zn ys) = -1:=by unfold U6;rw[if_pos (Bm hx hy hlt)]
   rw[e];exact Zcu xs ys h (by simp;omega)
  ·have:=Bm hy hx (by omega);have e:U6 (Zn xs) (Zn ys)=1:=by unfold U6;rw[if_neg (by omega),if_pos this]
   rw[e];exact Zcv xs ys h (by simp;omega)
def Fm (la:Nat) (xa:List AV) (lb:Nat) (xb:List AV) (n:Nat) (cs:List AV) (c:Int) (m:Int) (i:Int):Zg:=(.val (.sl la xa)::(.val (.sl lb xb)::(dds 2 (.own 1 0 []::(.own 1 n cs::(.val (.int .u64 c)::(dds 14 (.val (.int .i64 m)::(.val (.int .i64 i)::(dds 35 []))))))))))
theorem Zsu (la:Nat) (xa:List AV) (lb:Nat) (xb:List AV) (n:Nat) (cs:List AV) (c:Int) (m:Int) (i:Int) (ds:List AV) (x y:Int) (c1:(decide (i<m))=true) (c2:(decide (i<(lb:Int)))=true) (n1:0<=i/\i<(la:Int)) (n2:Qg (List.drop (Int.toNat i*1) xa) 0 1 true=some (.int .u32 x)) (n3:0<=i/\i<(lb:Int)) (n4:Qg (List.drop (Int.toNat i*1) xb) 0 1 true=some (.int .u32 y)) (n5:0<=i/\i<(n:Int)) (n6:U4 cs (Int.toNat i*1) [.int .u32 (u32.wrap (u64.wrap ((u64.wrap ((u64.wrap x)+c))+(u64.wrap y))))]=some ds):Za Yir Re (Fm la xa lb xb n cs c m i) .norm (Fm la xa lb xb n ds (Int.fdiv (u64.wrap ((u64.wrap ((u64.wrap x)+c))+(u64.wrap y))) (2^(min (Int.toNat 32) (IntKind.bits .u64)))) m (i64.wrap (i+1))):=Za.go Zr 300 [.b true,.v (.int .u32 x),.b true,.v (.int .u32 y),.l ds] [0,1,4,5,6,21,22] (ac c1 (ac n1 (ac n2 (ac c2 (ac n3 (ac n4 (ac (show ¬ (32:Int)<0 from (by decide)) (ac n5 (ac n6 a0))))))))) (by kernel_rfl)
theorem Zst (la:Nat) (xa:List AV) (lb:Nat) (xb:List AV) (n:Nat) (cs:List AV) (c:Int) (m:Int) (i:Int) (ds:List AV) (x:Int) (c1:(decide (i<m))=true) (c2:(decide (i<(lb:Int)))=false) (n1:0<=i/\i<(la:Int)) (n2:Qg (List.drop (Int.toNat i*1) xa) 0 1 true=some (.int .u32 x)) (n3:0<=i/\i<(n:Int)) (n4:U4 cs (Int.toNat i*1) [.int .u32 (u32.wrap (u64.wrap ((u64.wrap x)+c)))]=some ds):Za Yir Re (Fm la xa lb xb n cs c m i) .norm (Fm la xa lb xb n ds (Int.fdiv (u64.wrap ((u64.wrap x)+c)) (2^(min (Int.toNat 32) (IntKind.bits .u64)))) m (i64.wrap (i+1))):=Za.go Zr 300 [.b true,.v (.int .u32 x),.b false,.l ds] [0,1,4,5,6,21,22] (ac c1 (ac n1 (ac n2 (ac c2 (ac (show ¬ (32:Int)<0 from (by decide)) (ac n3 (ac n4 a0))))))) (by kernel_rfl)
theorem Zss (la:Nat) (xa:List AV) (lb:Nat) (xb:List AV) (n:Nat) (cs:List AV) (c:Int) (m:Int) (i:Int) (c1:(decide (i<m))=false):Za Yir Re (Fm la xa lb xb n cs c m i) (.exit 0) (Fm la xa lb xb n cs c m i):=Za.go Zr 300 [.b false] [0,1,4,5,6,21,22] (ac c1 a0) (by kernel_rfl)
theorem Zmu (xs ys:List Int) (hx:U32 xs) (hy:U32 ys) (n:Nat) (hn:n<=1048576) (hxn:xs.length<=n):∀ (r i:Nat) (o:List Int) (c:Int),r+i=xs.length->o.length=n->U32 o->0<=c/\c<=1 ->
  Za Yir (.loop Re) (Fm xs.length (lm xs) ys.length (lm ys) n (lm o) c (xs.length:Int) (i:Int)) (.exit 0)
   (Fm xs.length (lm xs) ys.length (lm ys) n (lm (Fk xs ys r i o c).1) (Fk xs ys r i o c).2 (xs.length:Int) (xs.length:Int)):=by
 intro r;induction r with
 | zero =>
  intro i o c hi _ _ _;have hi':i=xs.length:=by omega
  subst hi';exact Za.loop_out (Zss xs.length (lm xs) ys.length (lm ys) n (lm o) c (xs.length:Int) (xs.length:Int) (by simp)) (by nofun)
 | succ r ih =>
  intro i o c hi hlo hu hc;have h1:=Zx hx i;have h2:=Zx hy i;have ei:i64.wrap ((i:Int)+1)=((i+1:Nat):Int):=by rw[w64 (by omega) (by omega)];omega
  have hxi:=Xt (xs:=xs) (i:=i) (by omega);have hst:=Gh (xs:=o) (i:=i) (v:=(xs.getD i 0+c+ys.getD i 0) % 4294967296) (by omega);by_cases hy2:i<ys.length
  ·have hyi:=Xt (xs:=ys) (i:=i) hy2;have eW:u32.wrap (u64.wrap (u64.wrap (u64.wrap (xs.getD i 0)+c)+u64.wrap (ys.getD i 0)))=(xs.getD i 0+c+ys.getD i 0) % 4294967296:=by rw[H9,Js,Js,Js,Js];omega
   have eC:Int.fdiv (u64.wrap (u64.wrap (u64.wrap (xs.getD i 0)+c)+u64.wrap (ys.getD i 0))) (2^(min (Int.toNat 32) (IntKind.bits .u64)))=((xs.getD i 0+c+ys.getD i 0) / 4294967296):=by
    show Int.fdiv _ 4294967296=_;rw[Int.fdiv_eq_ediv_of_nonneg _ (by omega),Js,Js,Js,Js];omega
   have k:=Zsu xs.length (lm xs) ys.length (lm ys) n (lm o) c (xs.length:Int) (i:Int) (lm (o.set i ((xs.getD i 0+c+ys.getD i 0) % 4294967296))) (xs.getD i 0) (ys.getD i 0)
    (by simp;omega) (by simp;omega) (by omega) (by rw[Int.toNat_natCast];exact hxi) (by omega) (by rw[Int.toNat_natCast];exact hyi) (by omega) (by rw[Int.toNat_natCast,eW];exact hst)
   rw[eC,ei] at k;exact Za.loop k (ih (i+1) _ _ (by omega) (by simpa using hlo) (Jf hu (by omega)) (by omega))
  ·have hy0:=Qi (xs:=ys) (i:=i) (by omega);have eW:u32.wrap (u64.wrap (u64.wrap (xs.getD i 0)+c))=(xs.getD i 0+c+ys.getD i 0) % 4294967296:=by rw[H9,Js,Js];omega
   have eC:Int.fdiv (u64.wrap (u64.wrap (xs.getD i 0)+c)) (2^(min (Int.toNat 32) (IntKind.bits .u64)))=((xs.getD i 0+c+ys.getD i 0) / 4294967296):=by
    show Int.fdiv _ 4294967296=_;rw[Int.fdiv_eq_ediv_of_nonneg _ (by omega),Js,Js];omega
   have k:=Zst xs.length (lm xs) ys.length (lm ys) n (lm o) c (xs.length:Int) (i:Int) (lm (o.set i ((xs.getD i 0+c+ys.getD i 0) % 4294967296))) (xs.getD i 0)
    (by simp;omega) (by simp;omega) (by omega) (by rw[Int.toNat_natCast];exact hxi) (by omega) (by rw[Int.toNat_natCast,eW];exact hst)
   rw[eC,ei] at k;exact Za.loop k (ih (i+1) _ _ (by omega) (by simpa using hlo) (Jf hu (by omega)) (by omega))
def Ez (la:Nat) (xa:List AV) (lb:Nat) (xb:List AV) (n:Nat) (cs:List AV) (c:Int) (m:Int) (i:Int):Zg:=(.val (.sl la xa)::(.val (.sl lb xb)::(dds 2 (.own 1 0 []::(.own 1 n cs::(.val (.int .u64 c)::(dds 6 (.val (.int .i64 m)::(.val (.int .i64 i)::(dds 29 []))))))))))
theorem Zsr (la:Nat) (xa:List AV) (lb:Nat) (xb:List AV) (n:Nat) (cs:List AV) (c:Int) (m:Int) (i:Int) (ds:List AV) (x y:Int) (c1:(decide (i<m))=true) (c2:(decide (i<(lb:Int)))=true) (n1:0<=i/\i<(la:Int)) (n2:Qg (List.drop (Int.toNat i*1) xa) 0 1 true=some (.int .u32 x)) (n3:0<=i/\i<(lb:Int)) (n4:Qg (List.drop (Int.toNat i*1) xb) 0 1 true=some (.int .u32 y)) (n5:0<=i/\i<(n:Int)) (n6:U4 cs (Int.toNat i*1) [.int .u32 (u32.wrap (u64.wrap ((u64.wrap ((u64.wrap x)-c))-(u64.wrap y))))]=some ds):Za Yir Zc4 (Ez la xa lb xb n cs c m i) .norm (Ez la xa lb xb n ds (Int.fdiv (u64.wrap ((u64.wrap ((u64.wrap x)-c))-(u64.wrap y))) (2^(min (Int.toNat 63) (IntKind.bits .u64)))) m (i64.wrap (i+1))):=Za.go Zr 300 [.b true,.v (.int .u32 x),.b true,.v (.int .u32 y),.l ds] [0,1,4,5,6,13,14] (ac c1 (ac n1 (ac n2 (ac c2 (ac n3 (ac n4 (ac (show ¬ (63:Int)<0 from (by decide)) (ac n5 (ac n6 a0))))))))) (by kernel_rfl)
theorem Zsq (la:Nat) (xa:List AV) (lb:Nat) (xb:List AV) (n:Nat) (cs:List AV) (c:Int) (m:Int) (i:Int) (ds:List AV) (x:Int) (c1:(decide (i<m))=true) (c2:(decide (i<(lb:Int)))=false) (n1:0<=i/\i<(la:Int)) (n2:Qg (List.drop (Int.toNat i*1) xa) 0 1 true=some (.int .u32 x)) (n3:0<=i/\i<(n:Int)) (n4:U4 cs (Int.toNat i*1) [.int .u32 (u32.wrap (u64.wrap ((u64.wrap x)-c)))]=some ds):Za Yir Zc4 (Ez la xa lb xb n cs c m i) .norm (Ez la xa lb xb n ds (Int.fdiv (u64.wrap ((u64.wrap x)-c)) (2^(min (Int.toNat 63) (IntKind.bits .u64)))) m (i64.wrap (i+1))):=Za.go Zr 300 [.b true,.v (.int .u32 x),.b false,.l ds] [0,1,4,5,6,13,14] (ac c1 (ac n1 (ac n2 (ac c2 (ac (show ¬ (63:Int)<0 from (by decide)) (ac n3 (ac n4 a0))))))) (by kernel_rfl)
theorem Zsp (la:Nat) (xa:List AV) (lb:Nat) (xb:List AV) (n:Nat) (cs:List AV) (c:Int) (m:Int) (i:Int) (c1:(decide (i<m))=false):Za Yir Zc4 (Ez la xa lb xb n cs c m i) (.exit 0) (Ez la xa lb xb n cs c m i):=Za.go Zr 300 [.b false] [0,1,4,5,6,13,14] (ac c1 a0) (by kernel_rfl)
theorem Zmt (xs ys:List Int) (hx:U32 xs) (hy:U32 ys) (n:Nat) (hn:n<=1048576) (hxn:xs.length<=n):∀ (r i:Nat) (o:List Int) (c:Int),r+i=xs.length->o.length=n->U32 o->0<=c/\c<=1 ->
  Za Yir (.loop Zc4) (Ez xs.length (lm xs) ys.length (lm ys) n (lm o) c (xs.length:Int) (i:Int)) (.exit 0)
   (Ez xs.length (lm xs) ys.length (lm ys) n (lm (Ft xs ys r i o c).1) (Ft xs ys r i o c).2 (xs.length:Int) (xs.length:Int)):=by
 intro r;induction r with
 | zero =>
  intro i o c hi _ _ _;have hi':i=xs.length:=by omega
  subst hi';exact Za.loop_out (Zsp xs.length (lm xs) ys.length (lm ys) n (lm o) c (xs.length:Int) (xs.length:Int) (by simp)) (by nofun)
 | succ r ih =>
  intro i o c hi hlo hu hc;have h1:=Zx hx i;have h2:=Zx hy i;have ei:i64.wrap ((i:Int)+1)=((i+1:Nat):Int):=by rw[w64 (by omega) (by omega)];omega
  have hxi:=Xt (xs:=xs) (i:=i) (by omega);have hst:=Gh (xs:=o) (i:=i) (v:=(xs.getD i 0-c-ys.getD i 0) % 4294967296) (by omega);by_cases hy2:i<ys.length
  ·have hyi:=Xt (xs:=ys) (i:=i) hy2;have eW:u32.wrap (u64.wrap (u64.wrap (u64.wrap (xs.getD i 0)-c)-u64.wrap (ys.getD i 0)))=(xs.getD i 0-c-ys.getD i 0) % 4294967296:=by rw[H9,Js,Js,Js,Js];omega
   have eC:Int.fdiv (u64.wrap (u64.wrap (u64.wrap (xs.getD i 0)-c)-u64.wrap (ys.getD i 0))) (2^(min (Int.toNat 63) (IntKind.bits .u64)))=(-((xs.getD i 0-c-ys.getD i 0) / 4294967296)):=by
    show Int.fdiv _ 9223372036854775808=_;rw[Int.fdiv_eq_ediv_of_nonneg _ (by omega),Js,Js,Js,Js];omega
   have k:=Zsr xs.length (lm xs) ys.length (lm ys) n (lm o) c (xs.length:Int) (i:Int) (lm (o.set i ((xs.getD i 0-c-ys.getD i 0) % 4294967296))) (xs.getD i 0) (ys.getD i 0)
    (by simp;omega) (by simp;omega) (by omega) (by rw[Int.toNat_natCast];exact hxi) (by omega) (by rw[Int.toNat_natCast];exact hyi) (by omega) (by rw[Int.toNat_natCast,eW];exact hst)
   rw[eC,ei] at k;exact Za.loop k (ih (i+1) _ _ (by omega) (by simpa using hlo) (Jf hu (by omega)) (by omega))
  ·have hy0:=Qi (xs:=ys) (i:=i) (by omega);have eW:u32.wrap (u64.wrap (u64.wrap (xs.getD i 0)-c))=(xs.getD i 0-c-ys.getD i 0) % 4294967296:=by rw[H9,Js,Js];omega
   have eC:Int.fdiv (u64.wrap (u64.wrap (xs.getD i 0)-c)) (2^(min (Int.toNat 63) (IntKind.bits .u64)))=(-((xs.getD i 0-c-ys.getD i 0) / 4294967296)):=by
    show Int.fdiv _ 9223372036854775808=_;rw[Int.fdiv_eq_ediv_of_nonneg _ (by omega),Js,Js];omega
   have k:=Zsq xs.length (lm xs) ys.length (lm ys) n (lm o) c (xs.length:Int) (i:Int) (lm (o.set i ((xs.getD i 0-c-ys.getD i 0) % 4294967296))) (xs.getD i 0)
    (by simp;omega) (by simp;omega) (by omega) (by rw[Int.toNat_natCast];exact hxi) (by omega) (by rw[Int.toNat_natCast,eW];exact hst)
   rw[eC,ei] at k;exact Za.loop k (ih (i+1) _ _ (by omega) (by simpa using hlo) (Jf hu (by omega)) (by omega))
theorem Zcr (xs ys o:List Int) (c:Int) (h:(decide ((xs.length:Int)<(ys.length:Int)))=true) (hmk:0<=i64.wrap ((ys.length:Int)+1)/\i64.wrap ((ys.length:Int)+1)<=1048576) (hl:Za Yir (.loop Re) (Fm ys.length (lm ys) xs.length (lm xs) (Int.toNat (i64.wrap ((ys.length:Int)+1))) (J3 [.int .u32 0] (Int.toNat (i64.wrap ((ys.length:Int)+1)))) 0 (ys.length:Int) 0) (.exit 0) (Fm ys.length (lm ys) xs.length (lm xs) (Int.toNat (i64.wrap ((ys.length:Int)+1))) (lm o) c (ys.length:Int) (ys.length:Int))) (hix:0<=(ys.length:Int)/\(ys.length:Int)<(((Int.toNat (i64.wrap ((ys.length:Int)+1))):Nat):Int)) (hst:U4 (lm o) (Int.toNat (ys.length:Int)*1) [.int .u32 (u32.wrap c)]=some (lm (o.set ys.length c))):Zc Yir 134 [.sl xs.length (lm xs),.sl ys.length (lm ys)] (.fresh 1 (Int.toNat (i64.wrap ((ys.length:Int)+1))) (lm (o.set ys.length c))):=Zc.of_bodyW (fn:=Zcx) (s:=(.val (.sl ys.length (lm ys))::(.val (.sl xs.length (lm xs))::(dds 2 (.own 1 (Int.toNat (i64.wrap ((ys.length:Int)+1))) (lm (o.set ys.length c))::(dds 1 (.val (.int .u64 c)::(dds 14 (.val (.int .i64 (ys.length:Int))::(.val (.int .i64 (ys.length:Int))::(dds 28 (.dup 5::(.val (.sl ys.length (lm ys))::(.val (.int .i64 (ys.length:Int))::(.val (.int .u64 c)::(.val (.int .u32 (u32.wrap c))::(.ptr 5 (Int.toNat (ys.length:Int)*1)::(dds 1 [])))))))))))))))))) (ex := .ret) rfl rfl (Za.seq (Za.go (t:=(vl xs::(vl ys::(dds 2 (.own 1 0 []::(dds 53 [])))))) Zr 300 [] [0,1,4] a0) (Za.seq (Za.go (t:=(vl ys::(vl xs::(dds 2 (.own 1 0 []::(dds 4 (vl xs::(vi (xs.length:Int)::(vl ys::(vi (ys.length:Int)::(.val (.bool (decide ((xs.length:Int)<(ys.length:Int))))::(vl ys::(vl xs::(dds 42 [])))))))))))))) Zr 300 [.b true] [0,1,4,9,10,11,12,13,14,15] (ac (show (decide ((xs.length:Int)<(ys.length:Int)))=true from h) a0)) (Za.seq (Za.go (t:=(vl ys::(vl xs::(dds 2 (.own 1 0 []::(.own 1 (Int.toNat (i64.wrap ((ys.length:Int)+1))) (J3 [.int .u32 0] (Int.toNat (i64.wrap ((ys.length:Int)+1))))::(dds 3 (vl xs::(vi (xs.length:Int)::(vl ys::(vi (ys.length:Int)::(.val (.bool (decide ((xs.length:Int)<(ys.length:Int))))::(vl ys::(vl xs::(vl ys::(vi (ys.length:Int)::(vi (i64.wrap ((ys.length:Int)+1))::(dds 39 [])))))))))))))))))) Zr 300 [] [0,1,4,5,9,10,11,12,13,14,15,16,17,18] (ac (show 0<=(i64.wrap ((ys.length:Int)+1))/\(i64.wrap ((ys.length:Int)+1))<=1048576 from hmk) a0)) (Za.seq (Za.go (t:=(vl ys::(vl xs::(dds 2 (.own 1 0 []::(.own 1 (Int.toNat (i64.wrap ((ys.length:Int)+1))) (J3 [.int .u32 0] (Int.toNat (i64.wrap ((ys.length:Int)+1))))::(.val (.int .u64 0)::(dds 2 (vl xs::(vi (xs.length:Int)::(vl ys::(vi (ys.length:Int)::(.val (.bool (decide ((xs.length:Int)<(ys.length:Int))))::(vl ys::(vl xs::(vl ys::(vi (ys.length:Int)::(vi (i64.wrap ((ys.length:Int)+1))::(dds 39 []))))))))))))))))))) Zr 300 [] [0,1,4,5,6,9,10,11,12,13,14,15,16,17,18] a0) (Za.seq (Za.seq (Za.go (t:=(vl ys::(vl xs::(dds 2 (.own 1 0 []::(.own 1 (Int.toNat (i64.wrap ((ys.length:Int)+1))) (J3 [.int .u32 0] (Int.toNat (i64.wrap ((ys.length:Int)+1))))::(.val (.int .u64 0)::(dds 14 (vi (ys.length:Int)::(vi 0::(dds 35 []))))))))))) Zr 300 [] [0,1,4,5,6,21,22] a0) (Za.block hl)) (Za.go (t:=(vl ys::(vl xs::(dds 2 (.own 1 (Int.toNat (i64.wrap ((ys.length:Int)+1))) (lm (o.set ys.length c))::(dds 1 (.val (.int .u64 c)::(dds 14 (vi (ys.length:Int)::(vi (ys.length:Int)::(dds 28 (.dup 5::(vl ys::(vi (ys.length:Int)::(.val (.int .u64 c)::(.val (.int .u32 (u32.wrap c))::(.ptr 5 (Int.toNat (ys.length:Int)*1)::(dds 1 [])))))))))))))))))) (ex := .ret) Zr 300 [.l (lm (o.set ys.length c))] [0,1,4,6,21,22,51,52,53,54,55,56] (ac (show 0<=(ys.length:Int)/\(ys.length:Int)<(((Int.toNat (i64.wrap ((ys.length:Int)+1))):Nat):Int) from hix) (ac (show U4 (lm o) (Int.toNat (ys.length:Int)*1) [.int .u32 (u32.wrap c)]=some (lm (o.set ys.length c)) from hst) a0)))))))) (by nofun) rfl
theorem Zcs (xs ys o:List Int) (c:Int) (h:(decide ((xs.length:Int)<(ys.length:Int)))=false) (hmk:0<=i64.wrap ((xs.length:Int)+1)/\i64.wrap ((xs.length:Int)+1)<=1048576) (hl:Za Yir (.loop Re) (Fm xs.length (lm xs) ys.length (lm ys) (Int.toNat (i64.wrap ((xs.length:Int)+1))) (J3 [.int .u32 0] (Int.toNat (i64.wrap ((xs.length:Int)+1)))) 0 (xs.length:Int) 0) (.exit 0) (Fm xs.length (lm xs) ys.length (lm ys) (Int.toNat (i64.wrap ((xs.length:Int)+1))) (lm o) c (xs.length:Int) (xs.length:Int))) (hix:0<=(xs.length:Int)/\(xs.length:Int)<(((Int.toNat (i64.wrap ((xs.length:Int)+1))):Nat):Int)) (hst:U4 (lm o) (Int.toNat (xs.length:Int)*1) [.int .u32 (u32.wrap c)]=some (lm (o.set xs.length c))):Zc Yir 134 [.sl xs.length (lm xs),.sl ys.length (lm ys)] (.fresh 1 (Int.toNat (i64.wrap ((xs.length:Int)+1))) (lm (o.set xs.length c))):=Zc.of_bodyW (fn:=Zcx) (s:=(.val (.sl xs.length (lm xs))::(.val (.sl ys.length (lm ys))::(dds 2 (.own 1 (Int.toNat (i64.wrap ((xs.length:Int)+1))) (lm (o.set xs.length c))::(dds 1 (.val (.int .u64 c)::(dds 14 (.val (.int .i64 (xs.length:Int))::(.val (.int .i64 (xs.length:Int))::(dds 28 (.dup 5::(.val (.sl xs.length (lm xs))::(.val (.int .i64 (xs.length:Int))::(.val (.int .u64 c)::(.val (.int .u32 (u32.wrap c))::(.ptr 5 (Int.toNat (xs.length:Int)*1)::(dds 1 [])))))))))))))))))) (ex := .ret) rfl rfl (Za.seq (Za.go (t:=(vl xs::(vl ys::(dds 2 (.own 1 0 []::(dds 53 [])))))) Zr 300 [] [0,1,4] a0) (Za.seq (Za.go (t:=(vl xs::(vl ys::(dds 2 (.own 1 0 []::(dds 4 (vl xs::(vi (xs.length:Int)::(vl ys::(vi (ys.length:Int)::(.val (.bool (decide ((xs.length:Int)<(ys.length:Int))))::(dds 44 [])))))))))))) Zr 300 [.b false] [0,1,4,9,10,11,12,13] (ac (show (decide ((xs.length:Int)<(ys.length:Int)))=false from h) a0)) (Za.seq (Za.go (t:=(vl xs::(vl ys::(dds 2 (.own 1 0 []::(.own 1 (Int.toNat (i64.wrap ((xs.length:Int)+1))) (J3 [.int .u32 0] (Int.toNat (i64.wrap ((xs.length:Int)+1))))::(dds 3 (vl xs::(vi (xs.length:Int)::(vl ys::(vi (ys.length:Int)::(.val (.bool (decide ((xs.length:Int)<(ys.length:Int))))::(dds 2 (vl xs::(vi (xs.length:Int)::(vi (i64.wrap ((xs.length:Int)+1))::(dds 39 []))))))))))))))))) Zr 300 [] [0,1,4,5,9,10,11,12,13,16,17,18] (ac (show 0<=(i64.wrap ((xs.length:Int)+1))/\(i64.wrap ((xs.length:Int)+1))<=1048576 from hmk) a0)) (Za.seq (Za.go (t:=(vl xs::(vl ys::(dds 2 (.own 1 0 []::(.own 1 (Int.toNat (i64.wrap ((xs.length:Int)+1))) (J3 [.int .u32 0] (Int.toNat (i64.wrap ((xs.length:Int)+1))))::(.val (.int .u64 0)::(dds 2 (vl xs::(vi (xs.length:Int)::(vl ys::(vi (ys.length:Int)::(.val (.bool (decide ((xs.length:Int)<(ys.length:Int))))::(dds 2 (vl xs::(vi (xs.length:Int)::(vi (i64.wrap ((xs.length:Int)+1))::(dds 39 [])))))))))))))))))) Zr 300 [] [0,1,4,5,6,9,10,11,12,13,16,17,18] a0) (Za.seq (Za.seq (Za.go (t:=(vl xs::(vl ys::(dds 2 (.own 1 0 []::(.own 1 (Int.toNat (i64.wrap ((xs.length:Int)+1))) (J3 [.int .u32 0] (Int.toNat (i64.wrap ((xs.length:Int)+1))))::(.val (.int .u64 0)::(dds 14 (vi (xs.length:Int)::(vi 0::(dds 35 []))))))))))) Zr 300 [] [0,1,4,5,6,21,22] a0) (Za.block hl)) (Za.go (t:=(vl xs::(vl ys::(dds 2 (.own 1 (Int.toNat (i64.wrap ((xs.length:Int)+1))) (lm (o.set xs.length c))::(dds 1 (.val (.int .u64 c)::(dds 14 (vi (xs.length:Int)::(vi (xs.length:Int)::(dds 28 (.dup 5::(vl xs::(vi (xs.length:Int)::(.val (.int .u64 c)::(.val (.int .u32 (u32.wrap c))::(.ptr 5 (Int.toNat (xs.length:Int)*1)::(dds 1 [])))))))))))))))))) (ex := .ret) Zr 300 [.l (lm (o.set xs.length c))] [0,1,4,6,21,22,51,52,53,54,55,56] (ac (show 0<=(xs.length:Int)/\(xs.length:Int)<(((Int.toNat (i64.wrap ((xs.length:Int)+1))):Nat):Int) from hix) (ac (show U4 (lm o) (Int.toNat (xs.length:Int)*1) [.int .u32 (u32.wrap c)]=some (lm (o.set xs.length c)) from hst) a0)))))))) (by nofun) rfl
theorem Dy {xs ys:List Int} (hx:U32 xs) (hy:U32 ys) (hl:ys.length<=xs.length) (hN:xs.length<1048576):∃ o c,(o:List Int).length=xs.length+1/\U32 (o.set xs.length c)/\Zn (o.set xs.length c)=Zn xs+Zn ys/\(0<=c/\c<=1) /\
  Za Yir (.loop Re) (Fm xs.length (lm xs) ys.length (lm ys) (xs.length+1) (lm (List.replicate (xs.length+1) 0)) 0 (xs.length:Int) 0) (.exit 0) (Fm xs.length (lm xs) ys.length (lm ys) (xs.length+1) (lm o) c (xs.length:Int) (xs.length:Int)):=by
 have hg:=Zmu xs ys hx hy (xs.length+1) (by omega) (by omega) xs.length 0 (List.replicate (xs.length+1) 0) 0 (by omega) (by simp) (X2 _) (by omega);cases e:Fk xs ys xs.length 0 (List.replicate (xs.length+1) 0) 0 with
 | mk o c =>
  obtain⟨g1,g2,g3,g4,g5⟩:=Zgn hx hy hl o c e;rw[e] at hg;exact⟨o,c,g1,g4,g5,g3,hg⟩
theorem K8 {xs ys:List Int} (hx:U32 xs) (hy:U32 ys) (h1:xs.length<1048576) (h2:ys.length<1048576):∃ zs,U32 zs/\Zn zs=Zn xs+Zn ys/\zs.length<=1048576/\Zc Yir 134 [.sl xs.length (lm xs),.sl ys.length (lm ys)] (.fresh 1 zs.length (lm zs)):=by
 by_cases hlt:xs.length<ys.length
 ·obtain⟨o,c,g1,g2,g3,g4,g5⟩:=Dy hy hx (by omega) h2;have e1:i64.wrap ((ys.length:Int)+1)=((ys.length+1:Nat):Int):=by rw[w64 (by omega) (by omega)];omega
  have e2:Int.toNat (i64.wrap ((ys.length:Int)+1))=ys.length+1:=by rw[e1,Int.toNat_natCast]
  have hst:=Gh (xs:=o) (i:=ys.length) (v:=c) (by omega);have h:=Zcr xs ys o c (by simp;omega) (by rw[e1];omega) (by rw[e2,U1];exact g5) (by rw[e2];omega) (by rw[Int.toNat_natCast,H9,Int.emod_eq_of_lt (by omega) (by omega)];exact hst);refine⟨o.set ys.length c,g2,by rw[g3,Int.add_comm],by simp;omega,?_⟩;rw[e2] at h;rw[List.length_set,g1];exact h
 ·obtain⟨o,c,g1,g2,g3,g4,g5⟩:=Dy hx hy (by omega) h1;have e1:i64.wrap ((xs.length:Int)+1)=((xs.length+1:Nat):Int):=by rw[w64 (by omega) (by omega)];omega
  have e2:Int.toNat (i64.wrap ((xs.length:Int)+1))=xs.length+1:=by rw[e1,Int.toNat_natCast]
  have hst:=Gh (xs:=o) (i:=xs.length) (v:=c) (by omega);have h:=Zcs xs ys o c (by simp;omega) (by rw[e1];omega) (by rw[e2,U1];exact g5) (by rw[e2];omega) (by rw[Int.toNat_natCast,H9,Int.emod_eq_of_lt (by omega) (by omega)];exact hst);refine⟨o.set xs.length c,g2,g3,by simp;omega,?_⟩;rw[e2] at h;rw[List.length_set,g1];exact h
theorem Zri (xs ys o:List Int) (c:Int) (hmk:0<=(xs.length:Int)/\(xs.length:Int)<=1048576) (hl:Za Yir (.loop Zc4) (Ez xs.length (lm xs) ys.length (lm ys) (Int.toNat (xs.length:Int)) (J3 [.int .u32 0] (Int.toNat (xs.length:Int))) 0 (xs.length:Int) 0) (.exit 0) (Ez xs.length (lm xs) ys.length (lm ys) (Int.toNat (xs.length:Int)) (lm o) c (xs.length:Int) (xs.length:Int))):Zc Yir 135 [.sl xs.length (lm xs),.sl ys.length (lm ys)] (.fresh 1 (Int.toNat (xs.length:Int)) (lm o)):=Zc.of_bodyW (fn:=Zhx) (s:=(.val (.sl xs.length (lm xs))::(.val (.sl ys.length (lm ys))::(dds 2 (.own 1 (Int.toNat (xs.length:Int)) (lm o)::(dds 1 (.val (.int .u64 c)::(dds 6 (.val (.int .i64 (xs.length:Int))::(.val (.int .i64 (xs.length:Int))::(dds 29 []))))))))))) (ex := .ret) rfl rfl (Za.seq (Za.go (t:=(vl xs::(vl ys::(dds 2 (.own 1 0 []::(dds 39 [])))))) Zr 300 [] [0,1,4] a0) (Za.seq (Za.go (t:=(vl xs::(vl ys::(dds 2 (.own 1 0 []::(.own 1 (Int.toNat (xs.length:Int)) (J3 [.int .u32 0] (Int.toNat (xs.length:Int)))::(dds 3 (vl xs::(vi (xs.length:Int)::(dds 33 [])))))))))) Zr 300 [] [0,1,4,5,9,10] (ac (show 0<=(xs.length:Int)/\(xs.length:Int)<=1048576 from hmk) a0)) (Za.seq (Za.go (t:=(vl xs::(vl ys::(dds 2 (.own 1 0 []::(.own 1 (Int.toNat (xs.length:Int)) (J3 [.int .u32 0] (Int.toNat (xs.length:Int)))::(.val (.int .u64 0)::(dds 2 (vl xs::(vi (xs.length:Int)::(dds 33 []))))))))))) Zr 300 [] [0,1,4,5,6,9,10] a0) (Za.seq (Za.seq (Za.go (t:=(vl xs::(vl ys::(dds 2 (.own 1 0 []::(.own 1 (Int.toNat (xs.length:Int)) (J3 [.int .u32 0] (Int.toNat (xs.length:Int)))::(.val (.int .u64 0)::(dds 6 (vi (xs.length:Int)::(vi 0::(dds 29 []))))))))))) Zr 300 [] [0,1,4,5,6,13,14] a0) (Za.block hl)) (Za.go (t:=(vl xs::(vl ys::(dds 2 (.own 1 (Int.toNat (xs.length:Int)) (lm o)::(dds 1 (.val (.int .u64 c)::(dds 6 (vi (xs.length:Int)::(vi (xs.length:Int)::(dds 29 []))))))))))) (ex := .ret) Zr 300 [] [0,1,4,6,13,14] a0))))) (by nofun) rfl
theorem Dn {xs ys:List Int} (hx:U32 xs) (hy:U32 ys) (hl:ys.length<=xs.length) (hv:Zn ys<=Zn xs) (hN:xs.length<=1048576):∃ zs,U32 zs/\Zn zs=Zn xs-Zn ys/\zs.length<=1048576/\Zc Yir 135 [.sl xs.length (lm xs),.sl ys.length (lm ys)] (.fresh 1 zs.length (lm zs)):=by
 have hg:=Zmt xs ys hx hy xs.length hN (Nat.le_refl _) xs.length 0 (List.replicate xs.length 0) 0 (by omega) (by simp) (X2 _) (by omega);cases e:Ft xs ys xs.length 0 (List.replicate xs.length 0) 0 with
 | mk o c =>
  obtain⟨g1,g2,g3⟩:=Zdl hx hy hl hv o c e;rw[e] at hg;have h:=Zri xs ys o c (by omega) (by rw[Int.toNat_natCast,U1];exact hg);rw[Int.toNat_natCast] at h;refine⟨o,g2,g3,by omega,?_⟩;rw[g1];exact h
theorem Zg6 (na:Bool) (p:Nat) (nb:Bool) (q:Nat) (zs:List Int) (r:Int) (h:(na==nb)=true) (h1:Zc Yir 134 [.sl (Zb p).length (lm (Zb p)),.sl (Zb q).length (lm (Zb q))] (.fresh 1 zs.length (lm zs))) (h2:Zc Yir 113 [.bool na,.sl zs.length (lm zs)] (.agg [.bool (decide (r<0)),.sl ((Zb (Int.natAbs r)).length) (lm (Zb (Int.natAbs r)))])):Zc Yir 112 [.bool na,.sl ((Zb p).length) (lm (Zb p)),.bool nb,.sl ((Zb q).length) (lm (Zb q))] (.agg [.bool (decide (r<0)),.sl ((Zb (Int.natAbs r)).length) (lm (Zb (Int.natAbs r)))]):=Zc.script (ps:=[(na==nb)=true,Zc Yir 134 [.sl ((Zb p).length) (lm (Zb p)),.sl ((Zb q).length) (lm (Zb q))] (.fresh 1 zs.length (lm zs)),Zc Yir 113 [.bool na,.sl zs.length (lm zs)] (.agg [.bool (decide (r<0)),.sl ((Zb (Int.natAbs r)).length) (lm (Zb (Int.natAbs r)))])]) Zr rfl 300 rfl [.b true,.r (.fresh 1 zs.length (lm zs)),.r (.agg [.bool (decide (r<0)),.sl ((Zb (Int.natAbs r)).length) (lm (Zb (Int.natAbs r)))])] (by kernel_rfl) ⟨h,h1,h2,trivial⟩
theorem Zg5 (na:Bool) (p:Nat) (nb:Bool) (q:Nat) (zs:List Int) (r:Int) (k:Int) (h:(na==nb)=false) (h3:Zc Yir 118 [.sl (Zb p).length (lm (Zb p)),.sl (Zb q).length (lm (Zb q))] (.int .i64 k)) (hk:(decide (k>=0))=true) (h1:Zc Yir 135 [.sl (Zb p).length (lm (Zb p)),.sl (Zb q).length (lm (Zb q))] (.fresh 1 zs.length (lm zs))) (h2:Zc Yir 113 [.bool na,.sl zs.length (lm zs)] (.agg [.bool (decide (r<0)),.sl ((Zb (Int.natAbs r)).length) (lm (Zb (Int.natAbs r)))])):Zc Yir 112 [.bool na,.sl ((Zb p).length) (lm (Zb p)),.bool nb,.sl ((Zb q).length) (lm (Zb q))] (.agg [.bool (decide (r<0)),.sl ((Zb (Int.natAbs r)).length) (lm (Zb (Int.natAbs r)))]):=Zc.script (ps:=[(na==nb)=false,Zc Yir 118 [.sl ((Zb p).length) (lm (Zb p)),.sl ((Zb q).length) (lm (Zb q))] (.int .i64 k),(decide (k>=0))=true,Zc Yir 135 [.sl ((Zb p).length) (lm (Zb p)),.sl ((Zb q).length) (lm (Zb q))] (.fresh 1 zs.length (lm zs)),Zc Yir 113 [.bool na,.sl zs.length (lm zs)] (.agg [.bool (decide (r<0)),.sl ((Zb (Int.natAbs r)).length) (lm (Zb (Int.natAbs r)))])]) Zr rfl 300 rfl [.b false,.r (.int .i64 k),.b true,.r (.fresh 1 zs.length (lm zs)),.r (.agg [.bool (decide (r<0)),.sl ((Zb (Int.natAbs r)).length) (lm (Zb (Int.natAbs r)))])] (by kernel_rfl) ⟨h,h3,hk,h1,h2,trivial⟩
theorem Zg4 (na:Bool) (p:Nat) (nb:Bool) (q:Nat) (zs:List Int) (r:Int) (k:Int) (h:(na==nb)=false) (h3:Zc Yir 118 [.sl (Zb p).length (lm (Zb p)),.sl (Zb q).length (lm (Zb q))] (.int .i64 k)) (hk:(decide (k>=0))=false) (h1:Zc Yir 135 [.sl (Zb q).length (lm (Zb q)),.sl (Zb p).length (lm (Zb p))] (.fresh 1 zs.length (lm zs))) (h2:Zc Yir 113 [.bool nb,.sl zs.length (lm zs)] (.agg [.bool (decide (r<0)),.sl ((Zb (Int.natAbs r)).length) (lm (Zb (Int.natAbs r)))])):Zc Yir 112 [.bool na,.sl ((Zb p).length) (lm (Zb p)),.bool nb,.sl ((Zb q).length) (lm (Zb q))] (.agg [.bool (decide (r<0)),.sl ((Zb (Int.natAbs r)).length) (lm (Zb (Int.natAbs r)))]):=Zc.script (ps:=[(na==nb)=false,Zc Yir 118 [.sl ((Zb p).length) (lm (Zb p)),.sl ((Zb q).length) (lm (Zb q))] (.int .i64 k),(decide (k>=0))=false,Zc Yir 135 [.sl ((Zb q).length) (lm (Zb q)),.sl ((Zb p).length) (lm (Zb p))] (.fresh 1 zs.length (lm zs)),Zc Yir 113 [.bool nb,.sl zs.length (lm zs)] (.agg [.bool (decide (r<0)),.sl ((Zb (Int.natAbs r)).length) (lm (Zb (Int.natAbs r)))])]) Zr rfl 300 rfl [.b false,.r (.int .i64 k),.b false,.r (.fresh 1 zs.length (lm zs)),.r (.agg [.bool (decide (r<0)),.sl ((Zb (Int.natAbs r)).length) (lm (Zb (Int.natAbs r)))])] (by kernel_rfl) ⟨h,h3,hk,h1,h2,trivial⟩
theorem Zdk {na nb:Bool} {p q:Nat} (hp:(Zb p).length<1048576) (hq:(Zb q).length<1048576):Zc Yir 112 [.bool na,.sl (Zb p).length (lm (Zb p)),.bool nb,.sl (Zb q).length (lm (Zb q))] (Zi (rv na (Zb p)+rv nb (Zb q))):=by
 have up:=Q6 p;have uq:=Q6 q;by_cases e:na=nb
 ·subst e;obtain⟨zs,z1,z2,z3,z4⟩:=K8 up uq hp hq;have h2:=J0 (neg:=na) z1 z3;have ev:rv na zs=rv na (Zb p)+rv na (Zb q):=by
   unfold rv;rw[z2];cases na <;> simp <;> omega
  rw[ev] at h2;exact Zg6 na p na q zs _ (by simp) z4 h2
 ·have hne:(na==nb)=false:=by simpa using e
  have hc:=V6 (Qq p) (Qq q) (by omega);have hnb:nb = !na:=by cases na <;> cases nb <;> simp_all
  have lenle:∀ {a b:Nat},Zn (Zb a)<=Zn (Zb b)->(Zb a).length<=(Zb b).length:=by
   intro a b h;rcases Nat.lt_or_ge (Zb b).length (Zb a).length with g | g
   ·have:=Bm (Qq b) (Qq a) g;omega
   ·exact g
  by_cases hk:Zn (Zb q)<=Zn (Zb p)
  ·obtain⟨zs,z1,z2,z3,z4⟩:=Dn up uq (lenle hk) hk (by omega);have h2:=J0 (neg:=na) z1 z3;have ev:rv na zs=rv na (Zb p)+rv nb (Zb q):=by
    subst hnb;unfold rv;rw[z2];cases na <;> simp <;> omega
   rw[ev] at h2;refine Zg5 na p nb q zs _ _ hne hc ?_ z4 h2;unfold U6;rw[if_neg (by omega)];split <;> rfl
  ·obtain⟨zs,z1,z2,z3,z4⟩:=Dn uq up (lenle (by omega)) (by omega) (by omega);have h2:=J0 (neg:=nb) z1 z3;have ev:rv nb zs=rv na (Zb p)+rv nb (Zb q):=by
    subst hnb;unfold rv;rw[z2];cases na <;> simp <;> omega
   rw[ev] at h2;refine Zg4 na p nb q zs _ _ hne hc ?_ z4 h2;unfold U6;rw[if_pos (by omega)];rfl
theorem Yrun77 (na:Bool) (xs:List Int) (nb:Bool) (ys:List Int) (a b r:Int) (h1:Zc Yir 75 [.agg [.bool na,.sl xs.length (lm xs)]] (.tup [.bool (decide (a<0)),.sl (Zb (Int.natAbs a)).length (lm (Zb (Int.natAbs a)))])) (h2:Zc Yir 75 [.agg [.bool nb,.sl ys.length (lm ys)]] (.tup [.bool (decide (b<0)),.sl (Zb (Int.natAbs b)).length (lm (Zb (Int.natAbs b)))])) (h3:Zc Yir 112 [.bool (decide (a<0)),.sl (Zb (Int.natAbs a)).length (lm (Zb (Int.natAbs a))),.bool (decide (b<0)),.sl (Zb (Int.natAbs b)).length (lm (Zb (Int.natAbs b)))] (.agg [.bool (decide (r<0)),.sl ((Zb (Int.natAbs r)).length) (lm (Zb (Int.natAbs r)))])):Zc Yir 77 [.agg [.bool na,.sl xs.length (lm xs)],.agg [.bool nb,.sl ys.length (lm ys)]] (.agg [.bool (decide (r<0)),.sl ((Zb (Int.natAbs r)).length) (lm (Zb (Int.natAbs r)))]):=Zc.script (ps:=[Zc Yir 75 [.agg [.bool na,.sl xs.length (lm xs)]] (.tup [.bool (decide (a<0)),.sl ((Zb (Int.natAbs a)).length) (lm (Zb (Int.natAbs a)))]),Zc Yir 75 [.agg [.bool nb,.sl ys.length (lm ys)]] (.tup [.bool (decide (b<0)),.sl ((Zb (Int.natAbs b)).length) (lm (Zb (Int.natAbs b)))]),Zc Yir 112 [.bool (decide (a<0)),.sl ((Zb (Int.natAbs a)).length) (lm (Zb (Int.natAbs a))),.bool (decide (b<0)),.sl ((Zb (Int.natAbs b)).length) (lm (Zb (Int.natAbs b)))] (.agg [.bool (decide (r<0)),.sl ((Zb (Int.natAbs r)).length) (lm (Zb (Int.natAbs r)))])]) Zr rfl 300 rfl [.r (.tup [.bool (decide (a<0)),.sl ((Zb (Int.natAbs a)).length) (lm (Zb (Int.natAbs a)))]),.r (.tup [.bool (decide (b<0)),.sl ((Zb (Int.natAbs b)).length) (lm (Zb (Int.natAbs b)))]),.r (.agg [.bool (decide (r<0)),.sl ((Zb (Int.natAbs r)).length) (lm (Zb (Int.natAbs r)))])] (by kernel_rfl) ⟨h1,h2,h3,trivial⟩
theorem D8 {na nb:Bool} {xs ys:List Int} (hx:U32 xs) (hy:U32 ys) (h1:xs.length<1048576) (h2:ys.length<1048576):Zc Yir 77 [.agg [.bool na,.sl xs.length (lm xs)],.agg [.bool nb,.sl ys.length (lm ys)]] (Zi (rv na xs+rv nb ys)):=by
 have l1:=Nat.lt_of_le_of_lt (Vl (neg:=na) hx) h1;have l2:=Nat.lt_of_le_of_lt (Vl (neg:=nb) hy) h2;have h3:=Zdk (na:=decide (rv na xs<0)) (nb:=decide (rv nb ys<0)) l1 l2;rw[W9,W9] at h3;exact Yrun77 na xs nb ys (rv na xs) (rv nb ys) _ (Qv hx (by omega)) (Qv hy (by omega)) h3
theorem Zi5 {a b:Int} (h1:(Zb a.natAbs).length<1048576) (h2:(Zb b.natAbs).length<1048576):Zc Yir 77 [Zi a,Zi b] (Zi (a+b)):=by
 have:=D8 (na:=decide (a<0)) (nb:=decide (b<0)) (Q6 a.natAbs) (Q6 b.natAbs) h1 h2;rwa [W9,W9] at this
theorem Zru (na:Bool) (xs:List Int) (nb:Bool) (ys:List Int) (a b r:Int) (h1:Zc Yir 75 [.agg [.bool na,.sl xs.length (lm xs)]] (.tup [.bool (decide (a<0)),.sl (Zb (Int.natAbs a)).length (lm (Zb (Int.natAbs a)))])) (h2:Zc Yir 75 [.agg [.bool nb,.sl ys.length (lm ys)]] (.tup [.bool (decide (b<0)),.sl (Zb (Int.natAbs b)).length (lm (Zb (Int.natAbs b)))])) (h3:Zc Yir 112 [.bool (decide (a<0)),.sl (Zb (Int.natAbs a)).length (lm (Zb (Int.natAbs a))),.bool (!(decide (b<0))),.sl (Zb (Int.natAbs b)).length (lm (Zb (Int.natAbs b)))] (.agg [.bool (decide (r<0)),.sl ((Zb (Int.natAbs r)).length) (lm (Zb (Int.natAbs r)))])):Zc Yir 103 [.agg [.bool na,.sl xs.length (lm xs)],.agg [.bool nb,.sl ys.length (lm ys)]] (.agg [.bool (decide (r<0)),.sl ((Zb (Int.natAbs r)).length) (lm (Zb (Int.natAbs r)))]):=Zc.script (ps:=[Zc Yir 75 [.agg [.bool na,.sl xs.length (lm xs)]] (.tup [.bool (decide (a<0)),.sl ((Zb (Int.natAbs a)).length) (lm (Zb (Int.natAbs a)))]),Zc Yir 75 [.agg [.bool nb,.sl ys.length (lm ys)]] (.tup [.bool (decide (b<0)),.sl ((Zb (Int.natAbs b)).length) (lm (Zb (Int.natAbs b)))]),Zc Yir 112 [.bool (decide (a<0)),.sl ((Zb (Int.natAbs a)).length) (lm (Zb (Int.natAbs a))),.bool (!(decide (b<0))),.sl ((Zb (Int.natAbs b)).length) (lm (Zb (Int.natAbs b)))] (.agg [.bool (decide (r<0)),.sl ((Zb (Int.natAbs r)).length) (lm (Zb (Int.natAbs r)))])]) Zr rfl 300 rfl [.r (.tup [.bool (decide (a<0)),.sl ((Zb (Int.natAbs a)).length) (lm (Zb (Int.natAbs a)))]),.r (.tup [.bool (decide (b<0)),.sl ((Zb (Int.natAbs b)).length) (lm (Zb (Int.natAbs b)))]),.r (.agg [.bool (decide (r<0)),.sl ((Zb (Int.natAbs r)).length) (lm (Zb (Int.natAbs r)))])] (by kernel_rfl) ⟨h1,h2,h3,trivial⟩
theorem Zi1 {na nb:Bool} {xs ys:List Int} (hx:U32 xs) (hy:U32 ys) (h1:xs.length<1048576) (h2:ys.length<1048576):Zc Yir 103 [.agg [.bool na,.sl xs.length (lm xs)],.agg [.bool nb,.sl ys.length (lm ys)]] (Zi (rv na xs-rv nb ys)):=by
 have l1:=Nat.lt_of_le_of_lt (Vl (neg:=na) hx) h1;have l2:=Nat.lt_of_le_of_lt (Vl (neg:=nb) hy) h2;have h3:=Zdk (na:=decide (rv na xs<0)) (nb := !decide (rv nb ys<0)) l1 l2;rw[W9,Zov,<- Int.sub_eq_add_neg] at h3;exact Zru na xs nb ys (rv na xs) (rv nb ys) _ (Qv hx (by omega)) (Qv hy (by omega)) h3
def TWB:Jx:=TWA
theorem Zp:Qn Yir TWB:=Zr
end Go.Proofs.Ythdpfjffdipipaa

namespace Go.Ai
open Go.IntKind (i64 u64 u32)
section
variable {prog:Nat->Option IFunc}
theorem Za.keep {c:ICode} {ex:Ex} {s t t':Zg} (ks:List Nat) (h:Za prog c s ex t) (e:Zfa ks t=t'):Za prog c s ex t':=e ▸ Za.weak h (SLe.refl _) (Zaj ks t)
theorem Za.upTo {c:ICode} {ex:Ex} {fin:Zg} (st:Nat->Zg) (n:Nat) (hex:ex ≠ .norm) (out:Za prog c (st n) ex fin):∀ i,i<=n->(∀ t,i<=t->t<n->Za prog c (st t) .norm (st (t+1)))->Za prog (.loop c) (st i) ex fin:=by
 intro i hi;obtain⟨r,hr⟩:∃ r,i+r=n:=⟨n-i,by omega⟩;induction r generalizing i with
 | zero =>
  intro _;have:i=n:=by omega
  subst this;exact Za.loop_out out hex
 | succ r ih =>
  intro hs;exact Za.loop (hs i (Nat.le_refl _) (by omega)) (ih (i+1) (by omega) (by omega) (fun t h1 h2=>hs t (by omega) h2))
theorem Wp (f:Nat->Bool) (m:Nat):∀ r i,i+r=m->(∀ j,i<=j->j<m->f j=false)\/∃ j,i<=j/\j<m/\f j=true/\∀ t,i<=t->t<j->f t=false:=by
 intro r;induction r with
 | zero=>intro i hi;left;intro j h1 h2;omega
 | succ r ih =>
  intro i hi;cases hf:f i with
  | true=>right;exact⟨i,Nat.le_refl _,by omega,hf,fun t h1 h2=>by omega⟩
  | false =>
   rcases ih (i+1) (by omega) with h | ⟨j,h1,h2,h3,h4⟩
   ·left;intro j h1 h2;by_cases e:j=i
    ·rw[e];exact hf
    ·exact h j (by omega) h2
   ·right;refine⟨j,by omega,h2,h3,fun t h5 h6 => ?_⟩;by_cases e:t=i
    ·rw[e];exact hf
    ·exact h4 t (by omega) h6
end
end Go.Ai

namespace Go.Ai
open Go.IntKind (i64 u64 u32)
theorem J1 (us:List Int) {j:Nat} (h:j<=us.length):Zn us=Zn (us.take j)+4294967296^j*Zn (us.drop j):=by
 have:=Uw (us.take j) (us.drop j);rw[List.take_append_drop,List.length_take,Nat.min_eq_left h] at this;exact this
theorem Zjd {us ws:List Int} {j:Nat} (hl:ws.length=us.length) (h:∀ t,t<j->ws.getD t 0=us.getD t 0):ws.take j=us.take j:=by
 apply List.ext_getElem?;intro t;rcases Nat.lt_or_ge t j with g | g
 ·rw[List.getElem?_take_of_lt g,List.getElem?_take_of_lt g];have:=h t g;rw[List.getD_eq_getElem?_getD,List.getD_eq_getElem?_getD] at this;rcases Nat.lt_or_ge t us.length with k | k
  ·rw[List.getElem?_eq_getElem k,List.getElem?_eq_getElem (by omega)] at this |-;simpa using this
  ·rw[List.getElem?_eq_none k,List.getElem?_eq_none (by omega)]
 ·rw[List.getElem?_eq_none (by simp;omega),List.getElem?_eq_none (by simp;omega)]
theorem Xs {us:List Int} (h:U32 us) (j:Nat):U32 (us.drop j):=fun x hx=>h x (List.mem_of_mem_drop hx)
theorem Xe {us:List Int} (h:U32 us) (j:Nat):U32 (us.take j):=fun x hx=>h x (List.mem_of_mem_take hx)
theorem Hq {us:List Int} (hu:U32 us) {n:Nat} {V:Int} (hV:V<=4294967296^n) (h:Zn us<V):Zn (us.drop n)=0:=by
 have h0:=Z0 (Xs hu n);rcases Nat.lt_or_ge n us.length with g | g
 ·have e:=J1 us (Nat.le_of_lt g);have h1:=Z0 (Xe hu n);have hp:=Qu n;apply Int.le_antisymm ?_ h0;apply Int.not_lt.1;intro hc;have:=Int.mul_le_mul_of_nonneg_left (show 1<=Zn (us.drop n) by omega) (show (0:Int)<=4294967296^n by omega);omega
 ·exact X6 g
theorem Vv {us:List Int} (hu:U32 us) (n:Nat):Zn (us.take n)<4294967296^n:=by
 have h:=Vg (Xe hu n);exact Int.lt_of_lt_of_le h (Vq (by simp;omega))
end Go.Ai

namespace Go.Ai
open Go.IntKind (i64 u64 u32)
def Eu (g:Int) (vs:List Int) (j:Nat):Nat->Nat->List Int->Int->Int->List Int × Int × Int
 | 0,_,us,b,c=>(us,b,c)
 | r+1,i,us,b,c=>Eu g vs j r (i+1) (us.set (i+j) ((us.getD (i+j) 0-(g*vs.getD i 0+c) % 4294967296-b) % 4294967296))
   (if us.getD (i+j) 0-(g*vs.getD i 0+c) % 4294967296-b<0 then 1 else 0) ((g*vs.getD i 0+c) / 4294967296)
theorem Zer {g v c:Int} (hg:0<=g/\g<4294967296) (hv:0<=v/\v<4294967296) (hc:0<=c/\c<4294967296):0<=g*v+c/\g*v+c<18446744073709551616:=by
 have h1:=Int.mul_nonneg hg.1 hv.1;have h2:=Int.mul_le_mul (show g<=4294967295 by omega) (show v<=4294967295 by omega) hv.1 (by omega);omega
theorem Zes {g:Int} {vs:List Int} {j:Nat} (hg:0<=g/\g<4294967296) (hv:U32 vs):∀ (r i:Nat) (us:List Int) (b c:Int),r+i=vs.length->j+vs.length<=us.length->U32 us->0<=b/\b<=1->0<=c/\c<4294967296 ->
  (Eu g vs j r i us b c).1.length=us.length/\U32 (Eu g vs j r i us b c).1/\(0<=(Eu g vs j r i us b c).2.1/\(Eu g vs j r i us b c).2.1<=1)/\(0<=(Eu g vs j r i us b c).2.2/\(Eu g vs j r i us b c).2.2<4294967296) /\
  Zn (Eu g vs j r i us b c).1=Zn us-4294967296^(i+j)*(g*Zn (vs.drop i)+b+c)+4294967296^(j+vs.length)*((Eu g vs j r i us b c).2.1+(Eu g vs j r i us b c).2.2) /\
  ∀ t,t<i+j\/j+vs.length<=t->(Eu g vs j r i us b c).1.getD t 0=us.getD t 0:=by
 intro r;induction r with
 | zero =>
  intro i us b c hi _ hu hb hc;refine⟨rfl,hu,hb,hc,?_,fun t _=>rfl⟩;have:i=vs.length:=by omega
  subst this;rw[X6 (Nat.le_refl _),Nat.add_comm];simp only[Eu,Int.mul_zero,Int.zero_add];omega
 | succ r ih =>
  intro i us b c hi hl hu hb hc;have hvi:=Zx hv i;have hui:=Zx hu (i+j);have hw:=Zer hg hvi hc;simp only[Eu];generalize hp:g*vs.getD i 0+c=p at *
  generalize hd:us.getD (i+j) 0-p % 4294967296-b=d at *
  obtain⟨g1,g2,g3,g4,g5,g6⟩:=ih (i+1) (us.set (i+j) (d % 4294967296)) (if d<0 then 1 else 0) (p / 4294967296) (by omega) (by simpa using hl) (Jf hu (by omega)) (by split <;> omega) (by omega);refine⟨by simpa using g1,g2,g3,g4,?_,fun t ht => ?_⟩
  ·rw[g5,Xd _ _ _ (by omega),Jd vs i,show i+1+j=(i+j)+1 by omega,Int.pow_succ];generalize (4294967296:Int)^(i+j)=P at *
   generalize Zn (vs.drop (i+1))=V at *
   have e1:d % 4294967296=d+4294967296*(if d<0 then 1 else 0):=by split <;> omega
   rw[e1];generalize (if d<0 then (1:Int) else 0)=k at *
   have e2:p=4294967296*(p / 4294967296)+p % 4294967296:=by omega
   generalize p / 4294967296=ph at *
   generalize p % 4294967296=pl at *
   generalize us.getD (i+j) 0=u at *
   generalize vs.getD i 0=v at *
   have e3:d=u-pl-b:=by omega
   have e4:c=4294967296*ph+pl-g*v:=by omega
   subst e3;rw[e4];grind
  ·rw[g6 t (by omega),Qm (by omega)]
def P0 (vs:List Int) (j:Nat):Nat->Nat->List Int->Int->List Int × Int
 | 0,_,us,c=>(us,c)
 | r+1,i,us,c=>P0 vs j r (i+1) (us.set (i+j) ((us.getD (i+j) 0+vs.getD i 0+c) % 4294967296)) ((us.getD (i+j) 0+vs.getD i 0+c) / 4294967296)
theorem Zgo {vs:List Int} {j:Nat} (hv:U32 vs):∀ (r i:Nat) (us:List Int) (c:Int),r+i=vs.length->j+vs.length<=us.length->U32 us->0<=c/\c<=1 ->
  (P0 vs j r i us c).1.length=us.length/\U32 (P0 vs j r i us c).1/\(0<=(P0 vs j r i us c).2/\(P0 vs j r i us c).2<=1) /\
  Zn (P0 vs j r i us c).1=Zn us+4294967296^(i+j)*(Zn (vs.drop i)+c)-4294967296^(j+vs.length)*(P0 vs j r i us c).2 /\
  ∀ t,t<i+j\/j+vs.length<=t->(P0 vs j r i us c).1.getD t 0=us.getD t 0:=by
 intro r;induction r with
 | zero =>
  intro i us c hi _ hu hc;refine⟨rfl,hu,hc,?_,fun t _=>rfl⟩;have:i=vs.length:=by omega
  subst this;rw[X6 (Nat.le_refl _),Nat.add_comm];simp only[P0,Int.zero_add];omega
 | succ r ih =>
  intro i us c hi hl hu hc;have hvi:=Zx hv i;have hui:=Zx hu (i+j);simp only[P0];generalize hd:us.getD (i+j) 0+vs.getD i 0+c=d at *
  obtain⟨g1,g2,g3,g4,g5⟩:=ih (i+1) (us.set (i+j) (d % 4294967296)) (d / 4294967296) (by omega) (by simpa using hl) (Jf hu (by omega)) (by omega);refine⟨by simpa using g1,g2,g3,?_,fun t ht => ?_⟩
  ·rw[g4,Xd _ _ _ (by omega),Jd vs i,show i+1+j=(i+j)+1 by omega,Int.pow_succ];generalize (4294967296:Int)^(i+j)=P at *
   generalize Zn (vs.drop (i+1))=V at *
   have e2:d=4294967296*(d / 4294967296)+d % 4294967296:=by omega
   generalize d / 4294967296=ph at *
   generalize d % 4294967296=pl at *
   generalize us.getD (i+j) 0=u at *
   generalize vs.getD i 0=v at *
   have e3:c=4294967296*ph+pl-u-v:=by omega
   rw[e3];grind
  ·rw[g5 t (by omega),Qm (by omega)]
structure Dig (n:Nat) (V W top nxt x y z:Int):Prop where
 vlow:0<=V-(top*4294967296+nxt)*4294967296^n/\V-(top*4294967296+nxt)*4294967296^n<4294967296^n
 wlow:0<=W-((x*4294967296+y)*4294967296+z)*4294967296^n/\W-((x*4294967296+y)*4294967296+z)*4294967296^n<4294967296^n
 htop:2147483648<=top/\top<4294967296
 hnxt:0<=nxt/\nxt<4294967296
 hx:0<=x/\x<4294967296
 hy:0<=y/\y<4294967296
 hz:0<=z/\z<4294967296
 small:W<4294967296*V
structure DigI (V W top num g r:Int):Prop where
 sum:g*top+r=num
 r0:0<=r
 g0:0<=g
 up:W<(g+1)*V
 gle:g<=4294967297
section
variable {n:Nat} {V W top nxt x y z:Int}
theorem Dig.x_le (h:Dig n V W top nxt x y z):x<=top:=by
 have hp:=Qu n;obtain⟨h1,h2⟩:=h.vlow;obtain⟨h3,h4⟩:=h.wlow;have:=h.hnxt;have:=h.hy;have:=h.hz;have hs:=h.small;apply Int.not_lt.1;intro hx;generalize (4294967296:Int)^n=P at *
 have e1:(x*4294967296+y)*4294967296+z>=(top+1)*4294967296*4294967296:=by omega
 have e2:=Int.mul_le_mul_of_nonneg_right e1 (show 0<=P by omega);have e3:top*4294967296+nxt+1<=(top+1)*4294967296:=by omega
 have e4:=Int.mul_le_mul_of_nonneg_right e3 (show 0<=P by omega);have e5:(top+1)*4294967296*4294967296*P=4294967296*((top+1)*4294967296*P):=by grind
 have e6:(top*4294967296+nxt+1)*P=(top*4294967296+nxt)*P+P:=by grind
 omega
theorem Dig.Vpos (h:Dig n V W top nxt x y z):4294967296*4294967296^n<=V:=by
 have hp:=Qu n;obtain⟨h1,h2⟩:=h.vlow;have:=h.hnxt;have:=h.htop;generalize (4294967296:Int)^n=P at *
 have:=Int.mul_le_mul_of_nonneg_right (show (4294967296:Int)<=top*4294967296+nxt by omega) (show 0<=P by omega);omega
theorem Dig.init (h:Dig n V W top nxt x y z):DigI V W top (x*4294967296+y) ((x*4294967296+y) / top) ((x*4294967296+y) % top):=by
 have hxl:=h.x_le;have ht:=h.htop;have hx:=h.hx;have hy:=h.hy;have e:=Int.mul_ediv_add_emod (x*4294967296+y) top;have r0:=Int.emod_nonneg (x*4294967296+y) (show top ≠ 0 by omega);have r1:=Int.emod_lt_of_pos (x*4294967296+y) (show 0<top by omega);have g0:0<=(x*4294967296+y) / top:=Int.ediv_nonneg (by omega) (by omega);have g1:(x*4294967296+y) / top<=4294967297:=by
  apply Int.lt_add_one_iff.1;apply Int.ediv_lt_of_lt_mul (by omega);omega
 generalize hg:(x*4294967296+y) / top=g at *
 generalize hr:(x*4294967296+y) % top=r at *
 refine⟨by rw[Int.mul_comm];exact e,r0,g0,?_,g1⟩;have hp:=Qu n;obtain⟨h1,h2⟩:=h.vlow;obtain⟨h3,h4⟩:=h.wlow;have hnx:=h.hnxt;have hz:=h.hz;generalize (4294967296:Int)^n=P at *
 have e1:x*4294967296+y+1<=(g+1)*top:=by
  have:(g+1)*top=top*g+top:=by grind
  omega
 have e2:(x*4294967296+y)*4294967296+z+1<=(x*4294967296+y+1)*4294967296:=by omega
 have e3:=Int.mul_le_mul_of_nonneg_right e2 (show 0<=P by omega);have e4:=Int.mul_le_mul_of_nonneg_right e1 (show 0<=4294967296*P by omega);have e5:top*(4294967296*P)<=V:=by
  have:(top*4294967296+nxt)*P=top*(4294967296*P)+nxt*P:=by grind
  have:=Int.mul_nonneg hnx.1 (show 0<=P by omega);omega
 have e6:=Int.mul_le_mul_of_nonneg_left e5 (show 0<=g+1 by omega);have e7:(g+1)*(top*(4294967296*P))=(g+1)*top*(4294967296*P):=by grind
 have e8:((x*4294967296+y)*4294967296+z+1)*P=((x*4294967296+y)*4294967296+z)*P+P:=by grind
 have e9:(x*4294967296+y+1)*4294967296*P=(x*4294967296+y+1)*(4294967296*P):=by grind
 omega
theorem Dig.step (h:Dig n V W top nxt x y z) {g r:Int} (i:DigI V W top (x*4294967296+y) g r) (hc:4294967296<=g\/r*4294967296+z<g*nxt):DigI V W top (x*4294967296+y) (g-1) (r+top):=by
 have ht:=h.htop;have hVp:=h.Vpos;have hp:=Qu n;have e0:(g-1)*top+(r+top)=g*top+r:=by grind
 have hg1:1<=g:=by
  rcases hc with h1 | h1
  ·omega
  ·apply Int.not_lt.1;intro hg;have:g=0:=by have:=i.g0;omega
   subst this;have:=i.r0;have:=h.hz;omega
 refine⟨by rw[e0];exact i.sum,by have:=i.r0;omega,by omega,?_,by have:=i.gle;omega⟩;rw[Int.sub_add_cancel];obtain⟨h1,h2⟩:=h.vlow;obtain⟨h3,h4⟩:=h.wlow;have hs:=h.small;rcases hc with hc | hc
 ·have:=Int.mul_le_mul_of_nonneg_right hc (show 0<=V by omega);omega
 ·have hsum:=i.sum;rw[<- hsum] at h3 h4;generalize (4294967296:Int)^n=P at *
  have e1:(g*top+r)*4294967296+z+1<=g*(top*4294967296+nxt):=by
   have:g*(top*4294967296+nxt)=g*top*4294967296+g*nxt:=by grind
   omega
  have e2:=Int.mul_le_mul_of_nonneg_right e1 (show 0<=P by omega);have e3:(top*4294967296+nxt)*P<=V:=by omega
  have e4:=Int.mul_le_mul_of_nonneg_left e3 (show 0<=g by omega);have e5:g*(top*4294967296+nxt)*P=g*((top*4294967296+nxt)*P):=by grind
  have e6:((g*top+r)*4294967296+z+1)*P=((g*top+r)*4294967296+z)*P+P:=by grind
  omega
theorem Dig.small_g (h:Dig n V W top nxt x y z) {g r:Int} (i:DigI V W top (x*4294967296+y) g r) (hr:4294967296<=r):g<4294967296:=by
 have hxl:=h.x_le;have ht:=h.htop;have hy:=h.hy;apply Int.not_le.1;intro hg;have:=Int.mul_le_mul_of_nonneg_right hg (show 0<=top by omega);have:=i.sum;omega
theorem Dig.out (h:Dig n V W top nxt x y z) {g r:Int} (i:DigI V W top (x*4294967296+y) g r) (hg:g<4294967296) (hc:4294967296<=r\/g*nxt<=r*4294967296+z):g*V<W+V:=by
 have ht:=h.htop;have hVp:=h.Vpos;have hp:=Qu n;have hnx:=h.hnxt;have hz:=h.hz;have hc':g*nxt<=r*4294967296+z:=by
  rcases hc with hc | hc
  ·have:=Int.mul_le_mul (show g<=4294967295 by omega) (show nxt<=4294967295 by omega) hnx.1 (by omega);omega
  ·exact hc
 obtain⟨h1,h2⟩:=h.vlow;obtain⟨h3,h4⟩:=h.wlow;have hsum:=i.sum;have hg0:=i.g0;rw[<- hsum] at h3 h4;generalize (4294967296:Int)^n=P at *
 have e1:g*(top*4294967296+nxt)<=(g*top+r)*4294967296+z:=by
  have:g*(top*4294967296+nxt)=g*top*4294967296+g*nxt:=by grind
  omega
 have e2:=Int.mul_le_mul_of_nonneg_right e1 (show 0<=P by omega);have e5:g*(top*4294967296+nxt)*P=g*((top*4294967296+nxt)*P):=by grind
 have e6:=Int.mul_le_mul (Int.le_of_lt hg) (show V-(top*4294967296+nxt)*P<=P by omega) (by omega) (show (0:Int)<=4294967296 by omega);have e7:g*(V-(top*4294967296+nxt)*P)=g*V-g*((top*4294967296+nxt)*P):=by grind
 have e8:g*(V-(top*4294967296+nxt)*P)<4294967296*P:=by
  rcases Int.lt_or_eq_of_le hg0 with q | q
  ·have:=Int.mul_lt_mul_of_pos_left h2 q;have:=Int.mul_le_mul_of_nonneg_right (Int.le_of_lt hg) (show 0<=P by omega);omega
  ·rw[<- q,Int.zero_mul];omega
 omega
end
theorem dig_of {us vs:List Int} {j m:Nat} (hu:U32 us) (hv:U32 vs) (hm:vs.length=m+2) (hj:j+m+2<us.length) (ht:2147483648<=vs.getD (m+1) 0) (hW:Zn (us.drop (j+1))<Zn vs) :
  Dig m (Zn vs) (Zn (us.drop j)) (vs.getD (m+1) 0) (vs.getD m 0) (us.getD (j+m+2) 0) (us.getD (j+m+1) 0) (us.getD (j+m) 0):=by
 have hV:=Vg hv;have z:=Hq (Xs hu (j+1)) (n:=m+2) (V:=Zn vs) (by rw[hm] at hV;omega) hW;rw[List.drop_drop] at z;have e1:=J1 (us.drop j) (j:=m) (by simp;omega);rw[List.drop_drop] at e1;have d1:=Jd us (j+m);have d2:=Jd us (j+m+1);have d3:=Jd us (j+m+2);rw[show j+m+2+1=j+1+(m+2) by omega,z] at d3;have l1:=Vv (Xs hu j) m;have l0:=Z0 (Xe (Xs hu j) m);have f1:=J1 vs (j:=m) (by omega);have c1:=Jd vs m;have c2:=Jd vs (m+1);have c3:=X6 (xs:=vs) (i:=m+1+1) (by omega);rw[c3] at c2;have k1:=Vv hv m;have k0:=Z0 (Xe hv m);have g1:=Jd us j;have gj:=Zx hu j;refine⟨?_,?_,⟨ht,(Zx hv _).2⟩,Zx hv _,Zx hu _,Zx hu _,Zx hu _,by omega⟩
 ·rw[f1,c1,c2,Int.mul_comm (_+_) (4294967296^m)];simp only[Int.mul_zero,Int.add_zero];rw[show vs.getD (m+1) 0*4294967296+vs.getD m 0=vs.getD m 0+4294967296*vs.getD (m+1) 0 by omega];omega
 ·rw[e1,d1,d2,d3,Int.mul_comm (_+_) (4294967296^m)];simp only[Int.mul_zero,Int.add_zero];rw[show (us.getD (j+m+2) 0*4294967296+us.getD (j+m+1) 0)*4294967296+us.getD (j+m) 0=us.getD (j+m) 0+4294967296*(us.getD (j+m+1) 0+4294967296*us.getD (j+m+2) 0) by omega];omega
structure StepOk (us vs ws:List Int) (j:Nat) (q:Int):Prop where
 len:ws.length=us.length
 u32:U32 ws
 val:Zn ws=Zn us-4294967296^j*(q*Zn vs)
 low:Zn (ws.drop j)<Zn vs
theorem Zbt {j:Nat} {a b:Int} (h:4294967296^j*a=4294967296^j*b):a=b:=Int.eq_of_mul_eq_mul_left (by have:=Qu j;omega) h
theorem Rl {us ws:List Int} {j:Nat} {k:Int} (hl:ws.length=us.length) (hj:j<=us.length) (h:∀ t,t<j->ws.getD t 0=us.getD t 0) (hv:Zn ws=Zn us+4294967296^j*k):Zn (ws.drop j)=Zn (us.drop j)+k:=by
 have e1:=J1 us hj;have e2:=J1 ws (j:=j) (by omega);rw[Zjd hl h] at e2;apply Zbt (j:=j);rw[Int.mul_add];omega
theorem Zde {us:List Int} {j n:Nat} (hj:j+n<us.length) (hz:Zn (us.drop (j+n+1))=0):Zn (us.drop j)=Zn ((us.drop j).take n)+4294967296^n*us.getD (j+n) 0:=by
 have e1:=J1 (us.drop j) (j:=n) (by simp;omega);rw[List.drop_drop] at e1;have d1:=Jd us (j+n);rw[hz,Int.mul_zero,Int.add_zero] at d1;rw[e1,d1]
theorem Zb8 {us vs:List Int} {j:Nat} (hu:U32 us) (hv:U32 vs) (hj:j+vs.length<us.length) (hW:Zn (us.drop (j+1))<Zn vs) {g:Int} (hg:0<=g/\g<4294967296)
  (h1:Zn (us.drop j)<(g+1)*Zn vs) (h2:g*Zn vs<Zn (us.drop j)+Zn vs) :
  let m:=Eu g vs j vs.length 0 us 0 0
  let d:=m.1.getD (j+vs.length) 0-m.2.2-m.2.1
  (d>=0->StepOk us vs (m.1.set (j+vs.length) (d % 4294967296)) j g) /\
  (d<0->StepOk us vs ((P0 vs j vs.length 0 (m.1.set (j+vs.length) (d % 4294967296)) 0).1.set (j+vs.length) (((P0 vs j vs.length 0 (m.1.set (j+vs.length) (d % 4294967296)) 0).1.getD (j+vs.length) 0+(P0 vs j vs.length 0 (m.1.set (j+vs.length) (d % 4294967296)) 0).2) % 4294967296)) j (g-1)/\1<=g):=by
 intro m d;have hVlt:=Vg hv;have z:=Hq (Xs hu (j+1)) (n:=vs.length) (V:=Zn vs) (by omega) hW;rw[List.drop_drop,show j+1+vs.length=j+vs.length+1 by omega] at z;obtain⟨m1,m2,m3,m4,m5,m6⟩:=Zes hg hv vs.length 0 us 0 0 (by omega) (show j+vs.length<=us.length by omega) hu (by omega) (by omega);change m.1.length=us.length at m1;change U32 m.1 at m2;change 0<=m.2.1/\m.2.1<=1 at m3;change 0<=m.2.2/\m.2.2<4294967296 at m4;change Zn m.1=Zn us-4294967296^(0+j)*(g*Zn (vs.drop 0)+0+0)+4294967296^(j+vs.length)*(m.2.1+m.2.2) at m5;change ∀ t,t<0+j\/j+vs.length<=t->m.1.getD t 0=us.getD t 0 at m6;have hd:d=m.1.getD (j+vs.length) 0-m.2.2-m.2.1:=rfl;clear_value d;generalize hms:m.1=ms at *
 generalize m.2.1=b at *
 generalize m.2.2=c at *
 rw[Nat.zero_add,List.drop_zero,Int.add_zero,Int.add_zero] at m5;have m6':=m6 (j+vs.length) (by omega);have w1:Zn (ms.drop j)=Zn (us.drop j)+(4294967296^vs.length*(b+c)-g*Zn vs):=by
  apply Rl m1 (by omega) (fun t ht=>m6 t (by omega));rw[m5,Int.pow_add,Int.mul_sub,Int.mul_assoc];omega
 have zz:Zn (ms.drop (j+vs.length+1))=0:=by
  have:ms.drop (j+vs.length+1)=us.drop (j+vs.length+1):=by
   apply List.ext_getElem?;intro t;rw[List.getElem?_drop,List.getElem?_drop];have:=m6 (j+vs.length+1+t) (by omega);rw[List.getD_eq_getElem?_getD,List.getD_eq_getElem?_getD] at this;rcases Nat.lt_or_ge (j+vs.length+1+t) us.length with k | k
   ·rw[List.getElem?_eq_getElem k,List.getElem?_eq_getElem (by omega)] at this |-;simpa using this
   ·rw[List.getElem?_eq_none k,List.getElem?_eq_none (by omega)]
  rw[this];exact z
 have w2:=Zde (us:=ms) (j:=j) (n:=vs.length) (by omega) zz;have lo:=Vv (Xs m2 j) vs.length;have lo0:=Z0 (Xe (Xs m2 j) vs.length);have hx:=Zx m2 (j+vs.length);have hX:ms.getD (j+vs.length) 0=d+b+c:=by omega
 rw[hX] at w2;have hp:=Qu vs.length;generalize hP:(4294967296:Int)^vs.length=P at *
 generalize hL:Zn ((ms.drop j).take vs.length)=L at *
 have w3:Zn (us.drop j)-g*Zn vs=L+P*d:=by
  rw[w1] at w2;have e:P*(d+b+c)=P*d+P*(b+c):=by grind
  omega
 have e2:(g+1)*Zn vs=g*Zn vs+Zn vs:=by grind
 have lset:∀ v:Int,Zn (ms.set (j+vs.length) v)=Zn us-4294967296^j*(g*Zn vs)+4294967296^j*(P*(v-d)):=by
  intro v;rw[Xd _ _ _ (by omega),m5,hX,Int.pow_add,hP];grind
 refine⟨fun hge => ?_,fun hlt => ?_⟩
 ·have hd0:d=0\/1<=d:=by omega
  have hd1:d<4294967296:=by omega
  refine⟨by simpa using m1,Jf m2 (by omega),?_,?_⟩
  ·rw[lset,Int.emod_eq_of_lt hge hd1,Int.sub_self,Int.mul_zero,Int.mul_zero,Int.add_zero]
  ·rw[Rl (us:=us) (k := -(g*Zn vs)) (by simpa using m1) (by omega) (fun t ht=>by rw[Qm (by omega)];exact m6 t (by omega)) (by rw[lset,Int.emod_eq_of_lt hge hd1,Int.sub_self,Int.mul_zero,Int.mul_zero,Int.add_zero,Int.mul_neg];omega)];omega
 ·have hg1:1<=g:=by
   apply Int.not_lt.1;intro hh;have hg':g=0:=by omega
   have:=Z0 (Xs hu j);rw[hg',Int.zero_mul] at w3;have:=Int.mul_le_mul_of_nonneg_left (show d <= -1 by omega) (show 0<=P by omega);omega
  refine⟨?_,hg1⟩;have hu2:U32 (ms.set (j+vs.length) (d % 4294967296)):=Jf m2 (by omega);obtain⟨a1,a2,a3,a4,a5⟩:=Zgo hv vs.length 0 (ms.set (j+vs.length) (d % 4294967296)) 0 (by omega) (show j+vs.length<=_ by rw[List.length_set];omega) hu2 (by omega);generalize P0 vs j vs.length 0 (ms.set (j+vs.length) (d % 4294967296)) 0=A at *
  have a6:=a5 (j+vs.length) (by omega);have hlen:A.1.length=us.length:=by rw[a1,List.length_set,m1]
  have hget:(ms.set (j+vs.length) (d % 4294967296)).getD (j+vs.length) 0=d % 4294967296:=by
   simp[List.getD_eq_getElem?_getD,show j+vs.length<ms.length by omega]
  rw[hget] at a6;rw[a6];rw[Nat.zero_add,List.drop_zero,Int.add_zero,lset,Int.pow_add,hP] at a4;have aset:∀ v:Int,Zn (A.1.set (j+vs.length) v)=Zn us-4294967296^j*((g-1)*Zn vs)+4294967296^j*(P*(v-d-A.2)):=by
   intro v;rw[Xd _ _ _ (by omega),a4,a6,Int.pow_add,hP];grind
  have hwA:∀ v:Int,Zn ((A.1.set (j+vs.length) v).drop j)=Zn (us.drop j)-(g-1)*Zn vs+P*(v-d-A.2):=by
   intro v;have:=Rl (us:=us) (ws:=A.1.set (j+vs.length) v) (j:=j) (k:=P*(v-d-A.2)-(g-1)*Zn vs) (by simpa using hlen) (by omega) (fun t ht=>by rw[Qm (by omega),a5 t (by omega),Qm (by omega)];exact m6 t (by omega)) (by rw[aset];grind);omega
  have hge0:0<=Zn (us.drop j)-(g-1)*Zn vs:=by
   have:(g-1)*Zn vs=g*Zn vs-Zn vs:=by grind
   omega
  have hltV:Zn (us.drop j)-(g-1)*Zn vs<Zn vs:=by
   have h3:(g-1)*Zn vs=g*Zn vs-Zn vs:=by grind
   have h4:=Int.mul_le_mul_of_nonneg_left (show d <= -1 by omega) (show 0<=P by omega);omega
  have hz3:A.2 = -d:=by
   have q0:=hwA 0;have q1:=Z0 (Xs (Jf a2 (i:=j+vs.length) (v:=0) (by omega)) j);have zz2:Zn ((A.1.set (j+vs.length) 0).drop (j+vs.length+1))=0:=by
    have:(A.1.set (j+vs.length) 0).drop (j+vs.length+1)=ms.drop (j+vs.length+1):=by
     apply List.ext_getElem?;intro t;rw[List.getElem?_drop,List.getElem?_drop];have h5:=a5 (j+vs.length+1+t) (by omega);rw[Qm (by omega)] at h5;have h6:(A.1.set (j+vs.length) 0).getD (j+vs.length+1+t) 0=ms.getD (j+vs.length+1+t) 0:=by rw[Qm (by omega)];exact h5
     rw[List.getD_eq_getElem?_getD,List.getD_eq_getElem?_getD] at h6;rcases Nat.lt_or_ge (j+vs.length+1+t) us.length with k | k
     ·rw[List.getElem?_eq_getElem (by simp;omega),List.getElem?_eq_getElem (by omega)] at h6 |-;simpa using h6
     ·rw[List.getElem?_eq_none (by simp;omega),List.getElem?_eq_none (by omega)]
    rw[this];exact zz
   have q2:=Zde (us:=A.1.set (j+vs.length) 0) (j:=j) (n:=vs.length) (by simp;omega) zz2;have q3:(A.1.set (j+vs.length) 0).getD (j+vs.length) 0=0:=by simp[List.getD_eq_getElem?_getD,show j+vs.length<A.1.length by omega]
   have q4:=Vv (Xs (Jf a2 (i:=j+vs.length) (v:=0) (by omega)) j) vs.length;rw[hP] at q2 q4;rw[q3,Int.mul_zero,Int.add_zero] at q2;rw[q0] at q1 q2;rw[<- q2] at q4;generalize Zn (us.drop j)-(g-1)*Zn vs=X at *
   have e5:P*(0-d-A.2)=P*(-d-A.2):=by rw[Int.zero_sub]
   rw[e5] at q1 q4;have c1 : -d-A.2<1:=by
    apply Int.not_le.1;intro hc;have:=Int.mul_le_mul_of_nonneg_left hc (show 0<=P by omega);omega
   have c2 : -1 < -d-A.2:=by
    apply Int.not_le.1;intro hc;have:=Int.mul_le_mul_of_nonneg_left hc (show 0<=P by omega);omega
   omega
  have hv0:(d % 4294967296+A.2) % 4294967296=0:=by omega
  rw[hv0];refine⟨by simpa using hlen,Jf a2 (by omega),?_,?_⟩
  ·rw[aset,show (0:Int)-d-A.2=0 by omega,Int.mul_zero,Int.mul_zero,Int.add_zero]
  ·rw[hwA,show (0:Int)-d-A.2=0 by omega,Int.mul_zero,Int.add_zero];exact hltV
end Go.Ai

namespace Go.Proofs.Ythdpfjffdipipaa
open Go.IntKind (i64 u64 u32)
open Go.Ai
theorem w32 {n:Int} (h:0<=n/\n<4294967296):u32.wrap n=n:=by rw [H9];omega
theorem Wu {n:Int} (h:0<=n/\n<18446744073709551616):u64.wrap n=n:=by rw [Js];omega
theorem p32:(2:Int)^(min (Int.toNat 32) (IntKind.bits .u64))=4294967296:=by decide
theorem p63:(2:Int)^(min (Int.toNat 63) (IntKind.bits .u64))=9223372036854775808:=by decide
theorem fd32 (s:Int):Int.fdiv s (2^(min (Int.toNat 32) (IntKind.bits .u64)))=s / 4294967296:=by
 rw[p32,Int.fdiv_eq_ediv_of_nonneg _ (by decide)]
theorem fd63 (s:Int):Int.fdiv s (2^(min (Int.toNat 63) (IntKind.bits .u64)))=s / 9223372036854775808:=by
 rw[p63,Int.fdiv_eq_ediv_of_nonneg _ (by decide)]
theorem Zbe {r x:Int} (hr:0<=r/\r<4294967296) (hx:0<=x/\x<4294967296) :
  u64.wrap ((BitVec.ofInt (IntKind.bits .u64) (u64.wrap (r*2^(min (Int.toNat 32) (IntKind.bits .u64)))) ||| BitVec.ofInt (IntKind.bits .u64) (u64.wrap x)).toNat)=r*4294967296+x:=by
 rw[p32,Wu (n:=r*4294967296) (by omega),Wu (n:=x) (by omega)];have:=or64 (q:=r) (c:=x) (s:=32) hr.1 (by rw[show (2:Int)^32=4294967296 by decide];omega) (by omega) (by rw[show (2:Int)^32=4294967296 by decide];exact hx);rw[show (2:Int)^32=4294967296 by decide] at this;exact this
theorem or32 {q c:Int} {s:Nat} (hq:0<=q) (hs:q*2^s<4294967296) (hs':s<=32) (hc:0<=c/\c<2^s) :
  u32.wrap ((BitVec.ofInt (IntKind.bits .u32) c ||| BitVec.ofInt (IntKind.bits .u32) (q*2^s)).toNat)=q*2^s+c:=by
 obtain⟨a,rfl⟩:∃ a:Nat,q=a:=⟨q.toNat,by omega⟩;obtain⟨b,rfl⟩:∃ b:Nat,c=b:=⟨c.toNat,by omega⟩;have e1:(a:Int)*2^s=((a*2^s:Nat):Int):=by rw[Int.natCast_mul,Int.natCast_pow];rfl
 have hb:b<2^s:=by
  have:(b:Int)<((2^s:Nat):Int):=by rw[Int.natCast_pow];exact hc.2
  omega
 have h64:2^s<=2^32:=Nat.pow_le_pow_right (by decide) hs';have e64:2^32=4294967296:=by decide
 rw[e1] at hs |-;show u32.wrap ((BitVec.ofInt 32 (b:Int) ||| BitVec.ofInt 32 ((a*2^s:Nat):Int)).toNat:Int)=_;rw[BitVec.or_comm,BitVec.toNat_or,BitVec.ofInt_natCast,BitVec.ofInt_natCast,BitVec.toNat_ofNat,BitVec.toNat_ofNat,Nat.mod_eq_of_lt (by omega),Nat.mod_eq_of_lt (by omega),Nat.mul_comm a,<- Nat.two_pow_add_eq_or_of_lt hb,Nat.mul_comm (2^s) a,H9];have hsum:a*2^s+b<4294967296:=by
  have hd:a*2^s+2^s<=2^32:=by
   have hk:2^32=2^(32-s)*2^s:=by rw[<- Nat.pow_add];congr 1;omega
   have h1:a<2^(32-s):=by
    rcases Nat.lt_or_ge a (2^(32-s)) with g | g
    ·exact g
    ·have:=Nat.mul_le_mul_right (2^s) g;omega
   have h2:=Nat.mul_le_mul_right (2^s) (show a+1<=2^(32-s) by omega);rw[Nat.add_mul,Nat.one_mul] at h2;omega
  omega
 omega
theorem Zoy {s:Nat} (hs:s<=32):(4294967296:Int)=2^(32-s)*2^s:=by rw [<- Int.pow_add,show 32-s+s=32 by omega];decide
theorem Lk {x:Int} {s:Nat} (hx:0<=x/\x<4294967296) (hs:s<32) :
  0<=x*2^s/\x*2^s<18446744073709551616/\x*2^s / 4294967296<2^s/\∃ q:Int,0<=q/\x*2^s % 4294967296=q*2^s:=by
 have hp:=Qc s;have hp2:(2:Int)^s<=2147483648:=by
  have:=Wz (show s<=31 by omega);rwa [show (2:Int)^31=2147483648 by decide] at this
 have h0:=Int.mul_nonneg hx.1 (show (0:Int)<=2^s by omega);have h1:=Int.mul_le_mul (show x<=4294967295 by omega) hp2 (by omega) (by omega);have h2:=Int.mul_lt_mul_of_pos_right hx.2 hp;refine⟨h0,by omega,by omega,?_⟩;have e:(4294967296:Int)=2^(32-s)*2^s:=by
  rw[<- Int.pow_add,show 32-s+s=32 by omega];decide
 refine⟨x % 2^(32-s),Int.emod_nonneg _ (by have:=Qc (32-s);omega),?_⟩;rw[e,Int.mul_comm x,Int.mul_comm (2^(32-s)),Int.mul_emod_mul_of_pos _ _ hp,Int.mul_comm]
end Go.Proofs.Ythdpfjffdipipaa
