/- Texts of the proof of RootSquares, packed by pack.py: part 10 of 18. -/
import Derived.Test.YthdpfjffdipipaaRsq9
namespace Go.Proofs.Ythdpfjffdipipaa
open Go.IntKind (i64 u64 u32)
open Go.Ai
set_option maxRecDepth 100000
def Zka (n:Nat):Nat:=if n=0 then 0 else Nat.log2 n+1
def Ni (i:Int):Int:=(Zka i.toNat:Nat)
theorem Zj9:∀ n:Nat,n<256->(J2[n]?).map (fun c=>(c.toNat:Int))=some ((Zka n:Nat):Int):=by
 have h:(List.range 256).all (fun n=>decide ((J2[n]?).map (fun c=>(c.toNat:Int))=some ((Zka n:Nat):Int)))=true:=by decide +kernel
 intro n hn;have:=List.all_eq_true.1 h n (by simpa using hn);simpa using this
theorem Mr (x:Int):((if 0<=(IntKind.u8.wrap x) then (J2)[(Int.toNat (IntKind.u8.wrap x))]? else none).map fun c=>(c.toNat:Int))=some (Ni (IntKind.u8.wrap x)):=by
 have hw:0<=IntKind.u8.wrap x/\IntKind.u8.wrap x<256:=by
  simp only[IntKind.wrap,IntKind.bits,IntKind.signed,Bool.false_and,Bool.false_eq_true,if_false];omega
 rw[if_pos hw.1];exact Zj9 _ (by omega)
def Zah (x:Int):Int :=
 match decide (x>=65536) with
 | true=>(match decide ((Int.fdiv x (2^(min (Int.toNat 16) (IntKind.bits .u32))))>=256) with
 | true=>(i64.wrap (24+(i64.wrap (Ni (IntKind.u8.wrap (Int.fdiv (Int.fdiv x (2^(min (Int.toNat 16) (IntKind.bits .u32)))) (2^(min (Int.toNat 8) (IntKind.bits .u32)))))))))
 | false=>(i64.wrap (16+(i64.wrap (Ni (IntKind.u8.wrap (Int.fdiv x (2^(min (Int.toNat 16) (IntKind.bits .u32))))))))))
 | false=>(match decide (x>=256) with
 | true=>(i64.wrap (8+(i64.wrap (Ni (IntKind.u8.wrap (Int.fdiv x (2^(min (Int.toNat 8) (IntKind.bits .u32)))))))))
 | false=>(i64.wrap (0+(i64.wrap (Ni (IntKind.u8.wrap x))))))
theorem Yrun76 (x:Int)  : Zc Yir 76 [.int .u32 x] (.int .i64 (Zah x)):=by
 unfold Zah;cases c1:(decide (x>=65536))
 ·cases c2:(decide (x>=256))
  ·exact Zc.script (r := .int .i64 (i64.wrap (0+(i64.wrap (Ni (IntKind.u8.wrap x)))))) (ps:=[(decide (x>=65536))=false,(decide (x>=256))=false,((if 0<=(IntKind.u8.wrap x) then (J2)[(Int.toNat (IntKind.u8.wrap x))]? else none).map fun c=>(c.toNat:Int))=some (Ni (IntKind.u8.wrap x))]) Zr rfl 300 rfl [.b false,.b false,.v (.int .u8 (Ni (IntKind.u8.wrap x)))] (by kernel_rfl) ⟨c1,c2,(Mr _),trivial⟩
  ·exact Zc.script (r := .int .i64 (i64.wrap (8+(i64.wrap (Ni (IntKind.u8.wrap (Int.fdiv x (2^(min (Int.toNat 8) (IntKind.bits .u32)))))))))) (ps:=[(decide (x>=65536))=false,(decide (x>=256))=true,¬ (8:Int)<0,((if 0<=(IntKind.u8.wrap (Int.fdiv x (2^(min (Int.toNat 8) (IntKind.bits .u32))))) then (J2)[(Int.toNat (IntKind.u8.wrap (Int.fdiv x (2^(min (Int.toNat 8) (IntKind.bits .u32))))))]? else none).map fun c=>(c.toNat:Int))=some (Ni (IntKind.u8.wrap (Int.fdiv x (2^(min (Int.toNat 8) (IntKind.bits .u32))))))]) Zr rfl 300 rfl [.b false,.b true,.v (.int .u8 (Ni (IntKind.u8.wrap (Int.fdiv x (2^(min (Int.toNat 8) (IntKind.bits .u32)))))))] (by kernel_rfl) ⟨c1,c2,(by decide),(Mr _),trivial⟩
 ·cases c2:(decide ((Int.fdiv x (2^(min (Int.toNat 16) (IntKind.bits .u32))))>=256))
  ·exact Zc.script (r := .int .i64 (i64.wrap (16+(i64.wrap (Ni (IntKind.u8.wrap (Int.fdiv x (2^(min (Int.toNat 16) (IntKind.bits .u32)))))))))) (ps:=[(decide (x>=65536))=true,¬ (16:Int)<0,(decide ((Int.fdiv x (2^(min (Int.toNat 16) (IntKind.bits .u32))))>=256))=false,((if 0<=(IntKind.u8.wrap (Int.fdiv x (2^(min (Int.toNat 16) (IntKind.bits .u32))))) then (J2)[(Int.toNat (IntKind.u8.wrap (Int.fdiv x (2^(min (Int.toNat 16) (IntKind.bits .u32))))))]? else none).map fun c=>(c.toNat:Int))=some (Ni (IntKind.u8.wrap (Int.fdiv x (2^(min (Int.toNat 16) (IntKind.bits .u32))))))]) Zr rfl 300 rfl [.b true,.b false,.v (.int .u8 (Ni (IntKind.u8.wrap (Int.fdiv x (2^(min (Int.toNat 16) (IntKind.bits .u32)))))))] (by kernel_rfl) ⟨c1,(by decide),c2,(Mr _),trivial⟩
  ·exact Zc.script (r := .int .i64 (i64.wrap (24+(i64.wrap (Ni (IntKind.u8.wrap (Int.fdiv (Int.fdiv x (2^(min (Int.toNat 16) (IntKind.bits .u32)))) (2^(min (Int.toNat 8) (IntKind.bits .u32)))))))))) (ps:=[(decide (x>=65536))=true,¬ (16:Int)<0,(decide ((Int.fdiv x (2^(min (Int.toNat 16) (IntKind.bits .u32))))>=256))=true,¬ (8:Int)<0,((if 0<=(IntKind.u8.wrap (Int.fdiv (Int.fdiv x (2^(min (Int.toNat 16) (IntKind.bits .u32)))) (2^(min (Int.toNat 8) (IntKind.bits .u32))))) then (J2)[(Int.toNat (IntKind.u8.wrap (Int.fdiv (Int.fdiv x (2^(min (Int.toNat 16) (IntKind.bits .u32)))) (2^(min (Int.toNat 8) (IntKind.bits .u32))))))]? else none).map fun c=>(c.toNat:Int))=some (Ni (IntKind.u8.wrap (Int.fdiv (Int.fdiv x (2^(min (Int.toNat 16) (IntKind.bits .u32)))) (2^(min (Int.toNat 8) (IntKind.bits .u32))))))]) Zr rfl 300 rfl [.b true,.b true,.v (.int .u8 (Ni (IntKind.u8.wrap (Int.fdiv (Int.fdiv x (2^(min (Int.toNat 16) (IntKind.bits .u32)))) (2^(min (Int.toNat 8) (IntKind.bits .u32)))))))] (by kernel_rfl) ⟨c1,(by decide),c2,(by decide),(Mr _),trivial⟩
theorem Zrf (x l:Int) (n1:Zc Yir 76 [.int .u32 x] (.int .i64 l)):Zc Yir 145 [.int .u32 x] (.int .i64 (i64.wrap (32-l))):=Zc.go (fn:=Zhu) Zr rfl 400 rfl [.r (.int .i64 l)] (ac n1 a0)
theorem Yq106 (n na:Bool) (xs as1:List Int) (v:Int) (n1:List.length (lm as1)=as1.length*1)
  (n2:as1.length<=35184372088832)
  (n3:Zc Yir 75 [.agg [.bool n,.sl xs.length (lm xs)]] (.tup [.bool na,.sl as1.length (lm as1)]))
  (n4:Zc Yir 113 [.bool false,.sl as1.length (lm as1)] (Zi v)):Zc Yir 106 [.agg [.bool n,.sl xs.length (lm xs)]] (Zi v) :=
 Zc.go (fn:=Zh6) Zr rfl 400 rfl [.r (.tup [.bool na,.sl as1.length (lm as1)]),.r (Zi v)] (ac n3 (ac n1 (ac n2 (ac n4 a0)))) (by kernel_rfl)
theorem Yq36 (n na:Bool) (xs as1:List Int) (n1:Zc Yir 75 [.agg [.bool n,.sl xs.length (lm xs)]] (.tup [.bool na,.sl as1.length (lm as1)])):Zc Yir 36 [.agg [.bool n,.sl xs.length (lm xs)]] (.int .i64 (as1.length:Int)) :=
 Zc.go (fn:=Yi36) Zr rfl 400 rfl [.r (.tup [.bool na,.sl as1.length (lm as1)])] (ac n1 a0) (by kernel_rfl)
theorem Zmj (n na:Bool) (xs as1:List Int) (c1:((as1.length:Int)==0)=true) (n1:Zc Yir 75 [.agg [.bool n,.sl xs.length (lm xs)]] (.tup [.bool na,.sl as1.length (lm as1)])):Zc Yir 37 [.agg [.bool n,.sl xs.length (lm xs)]] (.int .i64 0):=Zc.go (fn:=Zwm) Zr rfl 400 rfl [.r (.tup [.bool na,.sl as1.length (lm as1)]),.b true] (ac n1 (ac c1 a0))
theorem Zmi (n na:Bool) (xs as1:List Int) (l:Int) (c1:((as1.length:Int)==0)=false) (n1:0<=(i64.wrap ((as1.length:Int)-1))/\(i64.wrap ((as1.length:Int)-1))<(as1.length:Int)) (n2:Zc Yir 75 [.agg [.bool n,.sl xs.length (lm xs)]] (.tup [.bool na,.sl as1.length (lm as1)])) (n3:Zc Yir 76 [.int .u32 (as1.getD (Int.toNat (i64.wrap ((as1.length:Int)-1))) 0)] (.int .i64 l)):Zc Yir 37 [.agg [.bool n,.sl xs.length (lm xs)]] (.int .i64 (i64.wrap ((i64.wrap (32*(i64.wrap ((as1.length:Int)-1))))+l))):=Zc.go (fn:=Zwm) Zr rfl 400 rfl [.r (.tup [.bool na,.sl as1.length (lm as1)]),.b false,.v (.int .u32 (as1.getD (Int.toNat (i64.wrap ((as1.length:Int)-1))) 0)),.r (.int .i64 l)] (ac n2 (ac c1 (ac n1 (ac (Qe n1) (ac n3 a0)))))
theorem Wj (n k:Nat) (h:n / 2^k ≠ 0):Nat.log2 n=Nat.log2 (n / 2^k)+k:=by
 have hn:n ≠ 0:=by intro e;subst e;simp at h
 have:=(Nat.log2_eq_iff h).1 rfl;rw[Nat.log2_eq_iff hn];generalize Nat.log2 (n / 2^k)=j at *
 have hp:0<2^k:=Nat.two_pow_pos k;constructor
 ·rw[Nat.pow_add];exact (Nat.le_div_iff_mul_le hp).1 this.1
 ·have:n<2^(j+1)*2^k:=(Nat.div_lt_iff_lt_mul hp).1 this.2;rw[<- Nat.pow_add] at this;have e:j+k+1=j+1+k:=by omega
  rw[e];exact this
theorem Zj8 (v:Nat) (h:v<256) (h0:v ≠ 0):Ni (IntKind.u8.wrap (v:Int))=((Nat.log2 v+1:Nat):Int):=by
 have hw:IntKind.u8.wrap (v:Int)=v:=by
  simp only[IntKind.wrap,IntKind.bits,IntKind.signed,Bool.false_and,Bool.false_eq_true,if_false];omega
 rw[hw];unfold Ni Zka;rw[Int.toNat_natCast,if_neg h0]
theorem shr32 (n:Nat) (k:Nat) (hk:k<=32):Int.fdiv (n:Int) (2^(min (Int.toNat (k:Int)) (IntKind.bits .u32)))=((n / 2^k:Nat):Int):=by
 have e:min (Int.toNat (k:Int)) (IntKind.bits .u32)=k:=by
  show min (Int.toNat (k:Int)) 32=k;rw[Int.toNat_natCast];omega
 rw[e,Int.fdiv_eq_ediv_of_nonneg _ (Int.pow_nonneg (by omega))];have:(2:Int)^k=((2^k:Nat):Int):=by simp
 rw[this,<- Int.natCast_ediv]
theorem Zkb (n:Nat) (h:n<4294967296) (h0:n ≠ 0):Zah (n:Int)=((Nat.log2 n+1:Nat):Int):=by
 have s16 (n:Nat):Int.fdiv (n:Int) (2^(min (Int.toNat 16) (IntKind.bits .u32)))=((n / 2^16:Nat):Int):=shr32 n 16 (by omega);have s8 (n:Nat):Int.fdiv (n:Int) (2^(min (Int.toNat 8) (IntKind.bits .u32)))=((n / 2^8:Nat):Int):=shr32 n 8 (by omega);have fin (v c:Nat) (hv:v<256) (hv0:v ≠ 0) (hc:c<=56):i64.wrap ((c:Int)+i64.wrap (Ni (IntKind.u8.wrap (v:Int))))=((Nat.log2 v+1+c:Nat):Int):=by
  have:Nat.log2 v<8:=(Nat.log2_lt hv0).2 hv;rw[Zj8 v hv hv0,w64 (n:=((Nat.log2 v+1:Nat):Int)) (by omega) (by omega),w64 (by omega) (by omega)];omega
 unfold Zah;simp only[s16,s8];by_cases b:n<65536
 ·have b':decide ((n:Int)>=65536)=false:=by simp;omega
  rw[b'];by_cases c:n<256
  ·have c':decide ((n:Int)>=256)=false:=by simp;omega
   rw[c'];exact fin n 0 c h0 (by omega)
  ·have c':decide ((n:Int)>=256)=true:=by simp;omega
   rw[c',Wj n 8 (by omega)];have:=fin (n / 2^8) 8 (by omega) (by omega) (by omega);exact this.trans (by omega)
 ·have b':decide ((n:Int)>=65536)=true:=by simp;omega
  rw[b'];dsimp only;by_cases c:n / 2^16<256
  ·have c':decide (((n / 2^16:Nat):Int)>=256)=false:=by simp;omega
   rw[c',Wj n 16 (by omega)];have:=fin (n / 2^16) 16 (by omega) (by omega) (by omega);exact this.trans (by omega)
  ·have c':decide (((n / 2^16:Nat):Int)>=256)=true:=by simp;omega
   rw[c',Wj n 16 (by omega),Wj (n / 2^16) 8 (by omega)];have:=fin (n / 2^16 / 2^8) 24 (by omega) (by omega) (by omega);exact this.trans (by omega)
theorem L4 {n:Nat} (h:n<4294967296) (h0:n ≠ 0):Zc Yir 76 [.int .u32 (n:Nat)] (.int .i64 ((Nat.log2 n+1:Nat):Int)):=by
 have:=Yrun76 (n:Nat);rwa [Zkb n h h0] at this
theorem lz_run {x:Int} (hx:0<x/\x<4294967296):∃ s:Nat,s<32/\2147483648<=x*2^s/\x*2^s<4294967296/\Zc Yir 145 [.int .u32 x] (.int .i64 (s:Nat)):=by
 obtain⟨n,rfl⟩:∃ n:Nat,x=n:=⟨x.toNat,by omega⟩;have hn0:n ≠ 0:=by omega
 have hl:=(Nat.log2_eq_iff hn0).1 rfl;have hlt:Nat.log2 n<32:=(Nat.log2_lt hn0).2 (by omega);refine⟨31-Nat.log2 n,by omega,?_,?_,?_⟩
 ·have:2^31<=n*2^(31-Nat.log2 n):=by
   have h:=Nat.mul_le_mul_right (2^(31-Nat.log2 n)) hl.1;rwa [<- Nat.pow_add,show Nat.log2 n+(31-Nat.log2 n)=31 by omega] at h
  have e:(n:Int)*2^(31-Nat.log2 n)=((n*2^(31-Nat.log2 n):Nat):Int):=by rw[Int.natCast_mul,Int.natCast_pow];rfl
  rw[e];omega
 ·have:n*2^(31-Nat.log2 n)<2^32:=by
   have h:=Nat.mul_lt_mul_of_pos_right hl.2 (Nat.two_pow_pos (31-Nat.log2 n));rwa [<- Nat.pow_add,show Nat.log2 n+1+(31-Nat.log2 n)=32 by omega] at h
  have e:(n:Int)*2^(31-Nat.log2 n)=((n*2^(31-Nat.log2 n):Nat):Int):=by rw[Int.natCast_mul,Int.natCast_pow];rfl
  rw[e];omega
 ·have h:=Zrf (n:Nat) _ (L4 (by omega) hn0);rw[w64 (by omega) (by omega)] at h;rwa [show (32:Int)-((Nat.log2 n+1:Nat):Int)=((31-Nat.log2 n:Nat):Int) by omega] at h
theorem Lg {neg:Bool} {xs:List Int} (hu:U32 xs) (hN:xs.length<=1048576):Zc Yir 36 [.agg [.bool neg,.sl xs.length (lm xs)]] (.int .i64 (((Zb (rv neg xs).natAbs).length:Nat):Int)) :=
 Yq36 neg _ xs _ (Qv hu hN)
theorem N5 {neg:Bool} {xs:List Int} (hu:U32 xs) (hN:xs.length<=1048576):Zc Yir 106 [.agg [.bool neg,.sl xs.length (lm xs)]] (Zi ((rv neg xs).natAbs:Nat)):=by
 have l1:=Vl (neg:=neg) hu;have h:=J0 (neg:=false) (Q6 (rv neg xs).natAbs) (by omega);rw[rv_pos] at h;exact Yq106 neg _ xs _ _ (Zag _) (by omega) (Qv hu hN) h
def Bo (n:Nat):Nat:=if n=0 then 0 else Nat.log2 n+1
theorem Zi9 {n:Nat} (h:n ≠ 0):1<=(Zb n).length/\∃ x:Nat,(Zb n).getD ((Zb n).length-1) 0=x/\x ≠ 0/\x<4294967296/\n / 2^(32*((Zb n).length-1))=x:=by
 have hc:=Qq n;have hn0:Zb n ≠ []:=by rw[Ne,Kx];exact h
 have hl:=List.length_pos_iff.2 hn0;have ht:=Zx hc.1 ((Zb n).length-1);have hz:(Zb n).getD ((Zb n).length-1) 0 ≠ 0:=by
  rcases hc.2 with g | g
  ·exact absurd g hn0
  ·exact g
 have hs:=J1 (Zb n) (j:=(Zb n).length-1) (by omega);have hd:=Jd (Zb n) ((Zb n).length-1);rw[X6 (xs:=Zb n) (i:=(Zb n).length-1+1) (by omega),Int.mul_zero,Int.add_zero] at hd;have h1:=Vv hc.1 ((Zb n).length-1);have h0:=Z0 (Xe hc.1 ((Zb n).length-1));rw[hd,Jg] at hs;generalize (Zb n).length-1=j at *
 generalize (Zb n).getD j 0=x at *
 obtain⟨x,rfl⟩:∃ y:Nat,x=y:=⟨x.toNat,by omega⟩;refine⟨hl,x,rfl,by omega,by omega,?_⟩;generalize Zn (List.take j (Zb n))=L at *
 have e:((n / 2^(32*j):Nat):Int)=(x:Int):=by
  rw[Int.natCast_ediv,Int.natCast_pow,show ((2:Nat):Int)^(32*j)=4294967296^j by rw[G3];rfl,hs];have hp:=Qu j;rw[Int.mul_comm (4294967296^j),Int.add_mul_ediv_right _ _ (by omega),Int.ediv_eq_zero_of_lt h0 h1,Int.zero_add]
 omega
theorem Km {neg:Bool} {xs:List Int} (hu:U32 xs) (hN:xs.length<=1048576):Zc Yir 37 [.agg [.bool neg,.sl xs.length (lm xs)]] (.int .i64 ((Bo (rv neg xs).natAbs:Nat):Int)):=by
 have l1:=Vl (neg:=neg) hu;have r1:=Qv (neg:=neg) hu hN;generalize rv neg xs=a at *
 by_cases h0:a.natAbs=0
 ·have h:=Zmj neg _ xs _ (by rw[h0];rfl) r1;rw[show Bo a.natAbs=0 by unfold Bo;rw[if_pos h0]];exact h
 ·obtain⟨t1,x,t2,t3,t4,t5⟩:=Zi9 h0;have e1:i64.wrap ((((Zb a.natAbs).length:Nat):Int)-1)=(((Zb a.natAbs).length-1:Nat):Int):=by rw[w64 (by omega) (by omega)];omega
  have hl:=L4 t4 t3;have h:=Zmi neg _ xs (Zb a.natAbs) _ (by rw[beq_eq_false_iff_ne];omega) (by rw[e1];omega) r1 (by rw[e1,Int.toNat_natCast,t2];exact hl);have hlog:Nat.log2 x<32:=(Nat.log2_lt t3).2 t4;rw[e1,w64 (n:=32*(((Zb a.natAbs).length-1:Nat):Int)) (by omega) (by omega),w64 (by omega) (by omega)] at h;have e2:Bo a.natAbs=Nat.log2 x+1+32*((Zb a.natAbs).length-1):=by
   unfold Bo;rw[if_neg h0,Wj a.natAbs (32*((Zb a.natAbs).length-1)) (by rw[t5];exact t3),t5];omega
  rw[e2];rwa [show 32*(((Zb a.natAbs).length-1:Nat):Int)+((Nat.log2 x+1:Nat):Int)=((Nat.log2 x+1+32*((Zb a.natAbs).length-1):Nat):Int) by omega] at h
end Go.Proofs.Ythdpfjffdipipaa

namespace Go.Proofs.Ythdpfjffdipipaa
open Go.IntKind (i64 u64 u32)
open Go.Ai
set_option maxRecDepth 100000
def Sy (xs:List Int) (d:Int) (k:Nat) (qs:List Int) (r:Int) (i:Int):Zg:=(.val (.sl xs.length (lm xs))::(.val (.int .u32 d)::(dds 4 (.own 1 k (lm qs)::(.val (.int .u64 r)::(.val (.int .i64 i)::(dds 34 [])))))))
theorem Zsl (xs:List Int) (d:Int) (k:Nat) (qs:List Int) (r:Int) (i:Int)  (c1:(decide (i>=0))=true) (n1:0<=i/\i<(xs.length:Int)) (n2:¬ (u64.wrap d)=0) (n3:0<=i/\i<(k:Int)) (n4:qs.length=k):Za Yir Zib (Sy xs d k qs r i) .norm (Sy xs d k (qs.set (Int.toNat i) (u32.wrap (u64.wrap (Int.tdiv (u64.wrap ((BitVec.ofInt (IntKind.bits .u64) (u64.wrap (r*2^(min (Int.toNat 32) (IntKind.bits .u64)))) ||| BitVec.ofInt (IntKind.bits .u64) (u64.wrap (xs.getD (Int.toNat i) 0))).toNat)) (u64.wrap d))))) (Int.tmod (u64.wrap ((BitVec.ofInt (IntKind.bits .u64) (u64.wrap (r*2^(min (Int.toNat 32) (IntKind.bits .u64)))) ||| BitVec.ofInt (IntKind.bits .u64) (u64.wrap (xs.getD (Int.toNat i) 0))).toNat)) (u64.wrap d)) (i64.wrap (i-1))):=(Za.go Zp 400 [.b true,.v (.int .u32 (xs.getD (Int.toNat i) 0)),.l (lm (qs.set (Int.toNat i) (u32.wrap (u64.wrap (Int.tdiv (u64.wrap ((BitVec.ofInt (IntKind.bits .u64) (u64.wrap (r*2^(min (Int.toNat 32) (IntKind.bits .u64)))) ||| BitVec.ofInt (IntKind.bits .u64) (u64.wrap (xs.getD (Int.toNat i) 0))).toNat)) (u64.wrap d))))))] [0,1,6,7,8] (ac c1 (ac (show ¬ (32:Int)<0 from (by decide)) (ac n1 (ac (Qe n1) (ac n2 (ac n2 (ac n3 (ac (show U4 (lm qs) (Int.toNat i*1) [.int .u32 (u32.wrap (u64.wrap (Int.tdiv (u64.wrap ((BitVec.ofInt (IntKind.bits .u64) (u64.wrap (r*2^(min (Int.toNat 32) (IntKind.bits .u64)))) ||| BitVec.ofInt (IntKind.bits .u64) (u64.wrap (xs.getD (Int.toNat i) 0))).toNat)) (u64.wrap d))))]=some (lm (qs.set (Int.toNat i) (u32.wrap (u64.wrap (Int.tdiv (u64.wrap ((BitVec.ofInt (IntKind.bits .u64) (u64.wrap (r*2^(min (Int.toNat 32) (IntKind.bits .u64)))) ||| BitVec.ofInt (IntKind.bits .u64) (u64.wrap (xs.getD (Int.toNat i) 0))).toNat)) (u64.wrap d)))))) from (Xi n4 n3)) a0)))))))))
theorem Zsk (xs:List Int) (d:Int) (k:Nat) (qs:List Int) (r:Int) (i:Int)  (c1:(decide (i>=0))=false):Za Yir Zib (Sy xs d k qs r i) (.exit 0) (Sy xs d k qs r i):=(Za.go Zp 400 [.b false] [0,1,6,7,8] (ac c1 a0))
theorem Zrg (xs qs:List Int) (d r i:Int) (k:Nat) (n1:0<=(xs.length:Int)/\(xs.length:Int)<=1048576) (hl2:Za Yir (.loop Zib) ((.val (.sl xs.length (lm xs))::(.val (.int .u32 d)::(dds 4 (.own 1 (Int.toNat (xs.length:Int)) (J3 [.int .u32 0] (Int.toNat (xs.length:Int)))::(.val (.int .u64 0)::(.val (.int .i64 (i64.wrap ((xs.length:Int)-1)))::(dds 34 [])))))))) (.exit 0) (Sy xs d k qs r i)):Zc Yir 144 [.sl xs.length (lm xs),.int .u32 d] (.tup [.sl k (lm qs),.int .u32 (u32.wrap r)]):=Zc.of_bodyW (fn:=Zhv) (s:=(dds 1 (.val (.int .u32 d)::(dds 2 (.own 1 k (lm qs)::(.val (.int .u32 (u32.wrap r))::(dds 37 []))))))) (ex := .ret) rfl rfl (Za.asc (Za.asc (Za.csi (Za.seq (Za.go Zp 400 [] [0,1,6,7,8] (ac n1 a0)) (Za.seq (Za.block hl2) (Za.go Zp 400 [] [1,4,5] a0)))))) (by nofun) rfl
def Sx (xs:List Int) (s:Int) (k:Nat) (os:List Int) (n:Int) (i:Int):Zg:=(dds 1 (.val (.int .i64 s)::(dds 3 (.own 1 k (lm os)::(dds 7 (.val (.sl xs.length (lm xs))::(.val (.int .i64 n)::(.val (.int .i64 i)::(dds 26 [])))))))))
theorem Zsj (xs:List Int) (s:Int) (k:Nat) (os:List Int) (n:Int) (i:Int)  (c1:(decide (i<n))=true) (n1:0<=i/\i<(xs.length:Int)) (n2:¬ (u64.wrap s)<0) (n3:0<=i/\i<(k:Int)) (n4:os.length=k) (n5:0<=(i64.wrap (i+1))/\(i64.wrap (i+1))<(k:Int)) (n6:(os.set (Int.toNat i) (u32.wrap ((BitVec.ofInt (IntKind.bits .u32) (os.getD (Int.toNat i) 0) ||| BitVec.ofInt (IntKind.bits .u32) (u32.wrap (u64.wrap ((u64.wrap (xs.getD (Int.toNat i) 0))*2^(min (Int.toNat (u64.wrap s)) (IntKind.bits .u64)))))).toNat))).length=k):Za Yir Zia (Sx xs s k os n i) .norm (Sx xs s k ((os.set (Int.toNat i) (u32.wrap ((BitVec.ofInt (IntKind.bits .u32) (os.getD (Int.toNat i) 0) ||| BitVec.ofInt (IntKind.bits .u32) (u32.wrap (u64.wrap ((u64.wrap (xs.getD (Int.toNat i) 0))*2^(min (Int.toNat (u64.wrap s)) (IntKind.bits .u64)))))).toNat))).set (Int.toNat (i64.wrap (i+1))) (u32.wrap (Int.fdiv (u64.wrap ((u64.wrap (xs.getD (Int.toNat i) 0))*2^(min (Int.toNat (u64.wrap s)) (IntKind.bits .u64)))) (2^(min (Int.toNat 32) (IntKind.bits .u64)))))) n (i64.wrap (i+1))):=(Za.go Zp 400 [.b true,.v (.int .u32 (xs.getD (Int.toNat i) 0)),.v (.int .u32 (os.getD (Int.toNat i) 0)),.l (lm (os.set (Int.toNat i) (u32.wrap ((BitVec.ofInt (IntKind.bits .u32) (os.getD (Int.toNat i) 0) ||| BitVec.ofInt (IntKind.bits .u32) (u32.wrap (u64.wrap ((u64.wrap (xs.getD (Int.toNat i) 0))*2^(min (Int.toNat (u64.wrap s)) (IntKind.bits .u64)))))).toNat)))),.l (lm ((os.set (Int.toNat i) (u32.wrap ((BitVec.ofInt (IntKind.bits .u32) (os.getD (Int.toNat i) 0) ||| BitVec.ofInt (IntKind.bits .u32) (u32.wrap (u64.wrap ((u64.wrap (xs.getD (Int.toNat i) 0))*2^(min (Int.toNat (u64.wrap s)) (IntKind.bits .u64)))))).toNat))).set (Int.toNat (i64.wrap (i+1))) (u32.wrap (Int.fdiv (u64.wrap ((u64.wrap (xs.getD (Int.toNat i) 0))*2^(min (Int.toNat (u64.wrap s)) (IntKind.bits .u64)))) (2^(min (Int.toNat 32) (IntKind.bits .u64)))))))] [1,5,13,14,15] (ac c1 (ac n1 (ac (Qe n1) (ac n2 (ac n3 (ac (Jz n4 n3) (ac n3 (ac (show U4 (lm os) (Int.toNat i*1) [.int .u32 (u32.wrap ((BitVec.ofInt (IntKind.bits .u32) (os.getD (Int.toNat i) 0) ||| BitVec.ofInt (IntKind.bits .u32) (u32.wrap (u64.wrap ((u64.wrap (xs.getD (Int.toNat i) 0))*2^(min (Int.toNat (u64.wrap s)) (IntKind.bits .u64)))))).toNat))]=some (lm (os.set (Int.toNat i) (u32.wrap ((BitVec.ofInt (IntKind.bits .u32) (os.getD (Int.toNat i) 0) ||| BitVec.ofInt (IntKind.bits .u32) (u32.wrap (u64.wrap ((u64.wrap (xs.getD (Int.toNat i) 0))*2^(min (Int.toNat (u64.wrap s)) (IntKind.bits .u64)))))).toNat)))) from (Xi n4 n3)) (ac (show ¬ (32:Int)<0 from (by decide)) (ac n5 (ac (show U4 (lm (os.set (Int.toNat i) (u32.wrap ((BitVec.ofInt (IntKind.bits .u32) (os.getD (Int.toNat i) 0) ||| BitVec.ofInt (IntKind.bits .u32) (u32.wrap (u64.wrap ((u64.wrap (xs.getD (Int.toNat i) 0))*2^(min (Int.toNat (u64.wrap s)) (IntKind.bits .u64)))))).toNat)))) (Int.toNat (i64.wrap (i+1))*1) [.int .u32 (u32.wrap (Int.fdiv (u64.wrap ((u64.wrap (xs.getD (Int.toNat i) 0))*2^(min (Int.toNat (u64.wrap s)) (IntKind.bits .u64)))) (2^(min (Int.toNat 32) (IntKind.bits .u64)))))]=some (lm ((os.set (Int.toNat i) (u32.wrap ((BitVec.ofInt (IntKind.bits .u32) (os.getD (Int.toNat i) 0) ||| BitVec.ofInt (IntKind.bits .u32) (u32.wrap (u64.wrap ((u64.wrap (xs.getD (Int.toNat i) 0))*2^(min (Int.toNat (u64.wrap s)) (IntKind.bits .u64)))))).toNat))).set (Int.toNat (i64.wrap (i+1))) (u32.wrap (Int.fdiv (u64.wrap ((u64.wrap (xs.getD (Int.toNat i) 0))*2^(min (Int.toNat (u64.wrap s)) (IntKind.bits .u64)))) (2^(min (Int.toNat 32) (IntKind.bits .u64))))))) from (Xi n6 n5)) a0))))))))))))
theorem Zsi (xs:List Int) (s:Int) (k:Nat) (os:List Int) (n:Int) (i:Int)  (c1:(decide (i<n))=false):Za Yir Zia (Sx xs s k os n i) (.exit 0) (Sx xs s k os n i):=(Za.go Zp 400 [.b false] [1,5,13,14,15] (ac c1 a0))
theorem Zre (xs os:List Int) (s n i:Int) (k:Nat) (n1:0<=(i64.wrap ((xs.length:Int)+1))/\(i64.wrap ((xs.length:Int)+1))<=1048576) (hl2:Za Yir (.loop Zia) ((dds 1 (.val (.int .i64 s)::(dds 3 (.own 1 (Int.toNat (i64.wrap ((xs.length:Int)+1))) (J3 [.int .u32 0] (Int.toNat (i64.wrap ((xs.length:Int)+1))))::(dds 7 (.val (.sl xs.length (lm xs))::(.val (.int .i64 (xs.length:Int))::(.val (.int .i64 0)::(dds 26 [])))))))))) (.exit 0) (Sx xs s k os n i)):Zc Yir 146 [.sl xs.length (lm xs),.int .i64 s] (.fresh 1 k (lm os)):=Zc.of_bodyW (fn:=Zht) (s:=(dds 1 (.val (.int .i64 s)::(dds 2 (.own 1 k (lm os)::(dds 37 [])))))) (ex := .ret) rfl rfl (Za.asc (Za.csi (Za.seq (Za.go Zp 400 [] [1,5,13,14,15] (ac n1 a0)) (Za.seq (Za.block hl2) (Za.go Zp 400 [] [1,4] a0))))) (by nofun) rfl
def Xy (k:Nat) (us:List Int) (vs:List Int) (n:Int) (t:Int) (t2:Int) (kq:Nat) (qs:List Int) (s:Int) (j:Int) (g:Int) (r:Int):Zg:=(dds 4 (.own 1 kq (lm qs)::(dds 3 (.val (.int .i64 s)::(.own 1 k (lm us)::(.val (.sl vs.length (lm vs))::(.val (.int .i64 n)::(dds 1 (.val (.int .u64 t)::(.val (.int .u64 t2)::(.val (.int .i64 j)::(dds 1 (.val (.int .u64 g)::(.val (.int .u64 r)::(dds 263 [])))))))))))))))
theorem Zm9 (k:Nat) (us:List Int) (vs:List Int) (n:Int) (t:Int) (t2:Int) (kq:Nat) (qs:List Int) (s:Int) (j:Int) (g:Int) (r:Int)  (c1:(decide (g>=4294967296))=true) (c2:(decide ((u64.wrap (r+t))>=4294967296))=true):Za Yir Kh (Xy k us vs n t t2 kq qs s j g r) (.exit 2) (Xy k us vs n t t2 kq qs s j (u64.wrap (g-1)) (u64.wrap (r+t))):=(Za.go Zp 400 [.b true,.b true,.b true] [4,8,9,10,11,13,14,15,17,18] (ac c1 (ac (show true=true from rfl) (ac c2 a0))))
theorem Zm8 (k:Nat) (us:List Int) (vs:List Int) (n:Int) (t:Int) (t2:Int) (kq:Nat) (qs:List Int) (s:Int) (j:Int) (g:Int) (r:Int)  (c1:(decide (g>=4294967296))=true) (c2:(decide ((u64.wrap (r+t))>=4294967296))=false):Za Yir Kh (Xy k us vs n t t2 kq qs s j g r) .norm (Xy k us vs n t t2 kq qs s j (u64.wrap (g-1)) (u64.wrap (r+t))):=(Za.go Zp 400 [.b true,.b true,.b false] [4,8,9,10,11,13,14,15,17,18] (ac c1 (ac (show true=true from rfl) (ac c2 a0))))
theorem Zm7 (k:Nat) (us:List Int) (vs:List Int) (n:Int) (t:Int) (t2:Int) (kq:Nat) (qs:List Int) (s:Int) (j:Int) (g:Int) (r:Int)  (c1:(decide (g>=4294967296))=false) (c2:(decide ((u64.wrap (g*t2))>(u64.wrap ((BitVec.ofInt (IntKind.bits .u64) (u64.wrap (r*2^(min (Int.toNat 32) (IntKind.bits .u64)))) ||| BitVec.ofInt (IntKind.bits .u64) (u64.wrap (us.getD (Int.toNat (i64.wrap ((i64.wrap (j+n))-2))) 0))).toNat))))=true) (c3:(decide ((u64.wrap (r+t))>=4294967296))=true) (n1:0<=(i64.wrap ((i64.wrap (j+n))-2))/\(i64.wrap ((i64.wrap (j+n))-2))<(k:Int)) (n2:us.length=k):Za Yir Kh (Xy k us vs n t t2 kq qs s j g r) (.exit 2) (Xy k us vs n t t2 kq qs s j (u64.wrap (g-1)) (u64.wrap (r+t))):=(Za.go Zp 400 [.b false,.v (.int .u32 (us.getD (Int.toNat (i64.wrap ((i64.wrap (j+n))-2))) 0)),.b true,.b true] [4,8,9,10,11,13,14,15,17,18] (ac c1 (ac (show ¬ (32:Int)<0 from (by decide)) (ac n1 (ac (Jz n2 n1) (ac c2 (ac c3 a0)))))))
theorem Zm6 (k:Nat) (us:List Int) (vs:List Int) (n:Int) (t:Int) (t2:Int) (kq:Nat) (qs:List Int) (s:Int) (j:Int) (g:Int) (r:Int)  (c1:(decide (g>=4294967296))=false) (c2:(decide ((u64.wrap (g*t2))>(u64.wrap ((BitVec.ofInt (IntKind.bits .u64) (u64.wrap (r*2^(min (Int.toNat 32) (IntKind.bits .u64)))) ||| BitVec.ofInt (IntKind.bits .u64) (u64.wrap (us.getD (Int.toNat (i64.wrap ((i64.wrap (j+n))-2))) 0))).toNat))))=true) (c3:(decide ((u64.wrap (r+t))>=4294967296))=false) (n1:0<=(i64.wrap ((i64.wrap (j+n))-2))/\(i64.wrap ((i64.wrap (j+n))-2))<(k:Int)) (n2:us.length=k):Za Yir Kh (Xy k us vs n t t2 kq qs s j g r) .norm (Xy k us vs n t t2 kq qs s j (u64.wrap (g-1)) (u64.wrap (r+t))):=(Za.go Zp 400 [.b false,.v (.int .u32 (us.getD (Int.toNat (i64.wrap ((i64.wrap (j+n))-2))) 0)),.b true,.b false] [4,8,9,10,11,13,14,15,17,18] (ac c1 (ac (show ¬ (32:Int)<0 from (by decide)) (ac n1 (ac (Jz n2 n1) (ac c2 (ac c3 a0)))))))
theorem Za7 (k:Nat) (us:List Int) (vs:List Int) (n:Int) (t:Int) (t2:Int) (kq:Nat) (qs:List Int) (s:Int) (j:Int) (g:Int) (r:Int)  (c1:(decide (g>=4294967296))=false) (c2:(decide ((u64.wrap (g*t2))>(u64.wrap ((BitVec.ofInt (IntKind.bits .u64) (u64.wrap (r*2^(min (Int.toNat 32) (IntKind.bits .u64)))) ||| BitVec.ofInt (IntKind.bits .u64) (u64.wrap (us.getD (Int.toNat (i64.wrap ((i64.wrap (j+n))-2))) 0))).toNat))))=false) (n1:0<=(i64.wrap ((i64.wrap (j+n))-2))/\(i64.wrap ((i64.wrap (j+n))-2))<(k:Int)) (n2:us.length=k):Za Yir Kh (Xy k us vs n t t2 kq qs s j g r) (.exit 2) (Xy k us vs n t t2 kq qs s j g r):=(Za.go Zp 400 [.b false,.v (.int .u32 (us.getD (Int.toNat (i64.wrap ((i64.wrap (j+n))-2))) 0)),.b false] [4,8,9,10,11,13,14,15,17,18] (ac c1 (ac (show ¬ (32:Int)<0 from (by decide)) (ac n1 (ac (Jz n2 n1) (ac c2 a0))))))
def H4 (k:Nat) (us:List Int) (vs:List Int) (n:Int) (t:Int) (t2:Int) (kq:Nat) (qs:List Int) (s:Int) (j:Int) (g:Int) (b:Int) (c:Int) (i:Int):Zg:=(dds 4 (.own 1 kq (lm qs)::(dds 3 (.val (.int .i64 s)::(.own 1 k (lm us)::(.val (.sl vs.length (lm vs))::(.val (.int .i64 n)::(dds 1 (.val (.int .u64 t)::(.val (.int .u64 t2)::(.val (.int .i64 j)::(dds 1 (.val (.int .u64 g)::(dds 1 (.val (.int .u64 b)::(.val (.int .u64 c)::(.val (.int .i64 i)::(dds 260 []))))))))))))))))))
theorem Zm5 (k:Nat) (us:List Int) (vs:List Int) (n:Int) (t:Int) (t2:Int) (kq:Nat) (qs:List Int) (s:Int) (j:Int) (g:Int) (b:Int) (c:Int) (i:Int)  (c1:(decide (i<n))=true) (n1:0<=i/\i<(vs.length:Int)) (n2:0<=(i64.wrap (i+j))/\(i64.wrap (i+j))<(k:Int)) (n3:us.length=k):Za Yir Nz (H4 k us vs n t t2 kq qs s j g b c i) .norm (H4 k (us.set (Int.toNat (i64.wrap (i+j))) (u32.wrap (u64.wrap ((u64.wrap ((u64.wrap (us.getD (Int.toNat (i64.wrap (i+j))) 0))-(u64.wrap (u32.wrap (u64.wrap ((u64.wrap (g*(u64.wrap (vs.getD (Int.toNat i) 0))))+c))))))-b)))) vs n t t2 kq qs s j g (Int.fdiv (u64.wrap ((u64.wrap ((u64.wrap (us.getD (Int.toNat (i64.wrap (i+j))) 0))-(u64.wrap (u32.wrap (u64.wrap ((u64.wrap (g*(u64.wrap (vs.getD (Int.toNat i) 0))))+c))))))-b)) (2^(min (Int.toNat 63) (IntKind.bits .u64)))) (Int.fdiv (u64.wrap ((u64.wrap (g*(u64.wrap (vs.getD (Int.toNat i) 0))))+c)) (2^(min (Int.toNat 32) (IntKind.bits .u64)))) (i64.wrap (i+1))):=(Za.go Zp 400 [.b true,.v (.int .u32 (vs.getD (Int.toNat i) 0)),.v (.int .u32 (us.getD (Int.toNat (i64.wrap (i+j))) 0)),.l (lm (us.set (Int.toNat (i64.wrap (i+j))) (u32.wrap (u64.wrap ((u64.wrap ((u64.wrap (us.getD (Int.toNat (i64.wrap (i+j))) 0))-(u64.wrap (u32.wrap (u64.wrap ((u64.wrap (g*(u64.wrap (vs.getD (Int.toNat i) 0))))+c))))))-b)))))] [4,8,9,10,11,13,14,15,17,19,20,21] (ac c1 (ac n1 (ac (Qe n1) (ac (show ¬ (32:Int)<0 from (by decide)) (ac n2 (ac (Jz n3 n2) (ac (show ¬ (63:Int)<0 from (by decide)) (ac n2 (ac (show U4 (lm us) (Int.toNat (i64.wrap (i+j))*1) [.int .u32 (u32.wrap (u64.wrap ((u64.wrap ((u64.wrap (us.getD (Int.toNat (i64.wrap (i+j))) 0))-(u64.wrap (u32.wrap (u64.wrap ((u64.wrap (g*(u64.wrap (vs.getD (Int.toNat i) 0))))+c))))))-b)))]=some (lm (us.set (Int.toNat (i64.wrap (i+j))) (u32.wrap (u64.wrap ((u64.wrap ((u64.wrap (us.getD (Int.toNat (i64.wrap (i+j))) 0))-(u64.wrap (u32.wrap (u64.wrap ((u64.wrap (g*(u64.wrap (vs.getD (Int.toNat i) 0))))+c))))))-b))))) from (Xi n3 n2)) a0))))))))))
theorem Zm4 (k:Nat) (us:List Int) (vs:List Int) (n:Int) (t:Int) (t2:Int) (kq:Nat) (qs:List Int) (s:Int) (j:Int) (g:Int) (b:Int) (c:Int) (i:Int)  (c1:(decide (i<n))=false):Za Yir Nz (H4 k us vs n t t2 kq qs s j g b c i) (.exit 4) (H4 k us vs n t t2 kq qs s j g b c i):=(Za.go Zp 400 [.b false] [4,8,9,10,11,13,14,15,17,19,20,21] (ac c1 a0))
def D0 (k:Nat) (us:List Int) (vs:List Int) (n:Int) (t:Int) (t2:Int) (kq:Nat) (qs:List Int) (s:Int) (j:Int) (g:Int) (c:Int) (i:Int):Zg:=(dds 4 (.own 1 kq (lm qs)::(dds 3 (.val (.int .i64 s)::(.own 1 k (lm us)::(.val (.sl vs.length (lm vs))::(.val (.int .i64 n)::(dds 1 (.val (.int .u64 t)::(.val (.int .u64 t2)::(.val (.int .i64 j)::(dds 1 (.val (.int .u64 g)::(dds 7 (.val (.int .u64 c)::(.val (.int .i64 i)::(dds 255 [])))))))))))))))))
theorem Znb (k:Nat) (us:List Int) (vs:List Int) (n:Int) (t:Int) (t2:Int) (kq:Nat) (qs:List Int) (s:Int) (j:Int) (g:Int) (c:Int) (i:Int)  (c1:(decide (i<n))=true) (n1:0<=(i64.wrap (i+j))/\(i64.wrap (i+j))<(k:Int)) (n2:us.length=k) (n3:0<=i/\i<(vs.length:Int)):Za Yir Rf (D0 k us vs n t t2 kq qs s j g c i) .norm (D0 k (us.set (Int.toNat (i64.wrap (i+j))) (u32.wrap (u64.wrap ((u64.wrap ((u64.wrap (us.getD (Int.toNat (i64.wrap (i+j))) 0))+(u64.wrap (vs.getD (Int.toNat i) 0))))+c)))) vs n t t2 kq qs s j g (Int.fdiv (u64.wrap ((u64.wrap ((u64.wrap (us.getD (Int.toNat (i64.wrap (i+j))) 0))+(u64.wrap (vs.getD (Int.toNat i) 0))))+c)) (2^(min (Int.toNat 32) (IntKind.bits .u64)))) (i64.wrap (i+1))):=(Za.go Zp 400 [.b true,.v (.int .u32 (us.getD (Int.toNat (i64.wrap (i+j))) 0)),.v (.int .u32 (vs.getD (Int.toNat i) 0)),.l (lm (us.set (Int.toNat (i64.wrap (i+j))) (u32.wrap (u64.wrap ((u64.wrap ((u64.wrap (us.getD (Int.toNat (i64.wrap (i+j))) 0))+(u64.wrap (vs.getD (Int.toNat i) 0))))+c)))))] [4,8,9,10,11,13,14,15,17,25,26] (ac c1 (ac n1 (ac (Jz n2 n1) (ac n3 (ac (Qe n3) (ac (show ¬ (32:Int)<0 from (by decide)) (ac n1 (ac (show U4 (lm us) (Int.toNat (i64.wrap (i+j))*1) [.int .u32 (u32.wrap (u64.wrap ((u64.wrap ((u64.wrap (us.getD (Int.toNat (i64.wrap (i+j))) 0))+(u64.wrap (vs.getD (Int.toNat i) 0))))+c)))]=some (lm (us.set (Int.toNat (i64.wrap (i+j))) (u32.wrap (u64.wrap ((u64.wrap ((u64.wrap (us.getD (Int.toNat (i64.wrap (i+j))) 0))+(u64.wrap (vs.getD (Int.toNat i) 0))))+c))))) from (Xi n2 n1)) a0)))))))))
theorem Zna (k:Nat) (us:List Int) (vs:List Int) (n:Int) (t:Int) (t2:Int) (kq:Nat) (qs:List Int) (s:Int) (j:Int) (g:Int) (c:Int) (i:Int)  (c1:(decide (i<n))=false):Za Yir Rf (D0 k us vs n t t2 kq qs s j g c i) (.exit 6) (D0 k us vs n t t2 kq qs s j g c i):=(Za.go Zp 400 [.b false] [4,8,9,10,11,13,14,15,17,25,26] (ac c1 a0))
def Hx (k:Nat) (us:List Int) (vs:List Int) (n:Int) (t:Int) (t2:Int) (kq:Nat) (qs:List Int) (s:Int) (j:Int):Zg:=(dds 4 (.own 1 kq (lm qs)::(dds 3 (.val (.int .i64 s)::(.own 1 k (lm us)::(.val (.sl vs.length (lm vs))::(.val (.int .i64 n)::(dds 1 (.val (.int .u64 t)::(.val (.int .u64 t2)::(.val (.int .i64 j)::(dds 266 []))))))))))))
theorem Zsx (k:Nat) (us:List Int) (vs:List Int) (n:Int) (t:Int) (t2:Int) (kq:Nat) (qs:List Int) (s:Int) (j:Int) (us1 us2:List Int) (g r b c cc:Int) (c1:(decide (j>=0))=true) (c2:((Int.fdiv (u64.wrap ((u64.wrap ((u64.wrap (us1.getD (Int.toNat (i64.wrap (j+n))) 0))-c))-b)) (2^(min (Int.toNat 63) (IntKind.bits .u64)))) != 0)=true) (n1:0<=(i64.wrap (j+n))/\(i64.wrap (j+n))<(k:Int)) (n2:us.length=k) (n3:0<=(i64.wrap ((i64.wrap (j+n))-1))/\(i64.wrap ((i64.wrap (j+n))-1))<(k:Int)) (n4:¬ t=0) (hl5:Za Yir (.loop Kh) (Xy k us vs n t t2 kq qs s j (u64.wrap (Int.tdiv (u64.wrap ((BitVec.ofInt (IntKind.bits .u64) (u64.wrap ((u64.wrap (us.getD (Int.toNat (i64.wrap (j+n))) 0))*2^(min (Int.toNat 32) (IntKind.bits .u64)))) ||| BitVec.ofInt (IntKind.bits .u64) (u64.wrap (us.getD (Int.toNat (i64.wrap ((i64.wrap (j+n))-1))) 0))).toNat)) t)) (Int.tmod (u64.wrap ((BitVec.ofInt (IntKind.bits .u64) (u64.wrap ((u64.wrap (us.getD (Int.toNat (i64.wrap (j+n))) 0))*2^(min (Int.toNat 32) (IntKind.bits .u64)))) ||| BitVec.ofInt (IntKind.bits .u64) (u64.wrap (us.getD (Int.toNat (i64.wrap ((i64.wrap (j+n))-1))) 0))).toNat)) t)) (.exit 2) (Xy k us vs n t t2 kq qs s j g r)) (hl6:Za Yir (.loop Nz) (H4 k us vs n t t2 kq qs s j g 0 0 0) (.exit 4) (H4 k us1 vs n t t2 kq qs s j g b c n)) (n7:us1.length=k) (hl8:Za Yir (.loop Rf) (D0 k (us1.set (Int.toNat (i64.wrap (j+n))) (u32.wrap (u64.wrap ((u64.wrap ((u64.wrap (us1.getD (Int.toNat (i64.wrap (j+n))) 0))-c))-b)))) vs n t t2 kq qs s j (u64.wrap (g-1)) 0 0) (.exit 6) (D0 k us2 vs n t t2 kq qs s j (u64.wrap (g-1)) cc n)) (n9:us2.length=k) (n10:0<=j/\j<(kq:Int)) (n11:qs.length=kq):Za Yir Lb (Hx k us vs n t t2 kq qs s j) .norm (Hx k (us2.set (Int.toNat (i64.wrap (j+n))) (u32.wrap ((us2.getD (Int.toNat (i64.wrap (j+n))) 0)+(u32.wrap cc)))) vs n t t2 kq (qs.set (Int.toNat j) (u32.wrap (u64.wrap (g-1)))) s (i64.wrap (j-1))):=(Za.seq (Za.go (t:=(dds 4 (.own 1 kq (lm qs)::(dds 3 (vi s::(.own 1 k (lm us)::(vl vs::(vi n::(dds 1 (.val (.int .u64 t)::(.val (.int .u64 t2)::(vi j::(dds 266 []))))))))))))) Zp 400 [.b true] [4,8,9,10,11,13,14,15] (ac c1 a0)) (Za.seq (Za.block_norm (Za.asc (Za.seq (Za.go Zp 400 [.v (.int .u32 (us.getD (Int.toNat (i64.wrap (j+n))) 0)),.v (.int .u32 (us.getD (Int.toNat (i64.wrap ((i64.wrap (j+n))-1))) 0))] [4,8,9,10,11,13,14,15,17,18] (ac n1 (ac (Jz n2 n1) (ac (show ¬ (32:Int)<0 from (by decide)) (ac n3 (ac (Jz n2 n3) (ac n4 (ac n4 a0)))))))) (Za.seq (Za.block hl5) (Za.csi (Za.seq (Za.go Zp 400 [] [4,8,9,10,11,13,14,15,17,19,20,21] a0) (Za.seq (Za.block hl6) (Za.asc (Za.csi (Za.seq (Za.go (t:=(dds 4 (.own 1 kq (lm qs)::(dds 3 (vi s::(.own 1 k (lm (us1.set (Int.toNat (i64.wrap (j+n))) (u32.wrap (u64.wrap ((u64.wrap ((u64.wrap (us1.getD (Int.toNat (i64.wrap (j+n))) 0))-c))-b)))))::(vl vs::(vi n::(dds 1 (.val (.int .u64 t)::(.val (.int .u64 t2)::(vi j::(dds 1 (.val (.int .u64 g)::(dds 181 (.val (.bool ((Int.fdiv (u64.wrap ((u64.wrap ((u64.wrap (us1.getD (Int.toNat (i64.wrap (j+n))) 0))-c))-b)) (2^(min (Int.toNat 63) (IntKind.bits .u64)))) != 0))::(dds 82 []))))))))))))))))) Zp 400 [.v (.int .u32 (us1.getD (Int.toNat (i64.wrap (j+n))) 0)),.l (lm (us1.set (Int.toNat (i64.wrap (j+n))) (u32.wrap (u64.wrap ((u64.wrap ((u64.wrap (us1.getD (Int.toNat (i64.wrap (j+n))) 0))-c))-b)))))] [4,8,9,10,11,13,14,15,17,199] (ac n1 (ac (Jz n7 n1) (ac n1 (ac (show U4 (lm us1) (Int.toNat (i64.wrap (j+n))*1) [.int .u32 (u32.wrap (u64.wrap ((u64.wrap ((u64.wrap (us1.getD (Int.toNat (i64.wrap (j+n))) 0))-c))-b)))]=some (lm (us1.set (Int.toNat (i64.wrap (j+n))) (u32.wrap (u64.wrap ((u64.wrap ((u64.wrap (us1.getD (Int.toNat (i64.wrap (j+n))) 0))-c))-b))))) from (Xi n7 n1)) (ac (show ¬ (63:Int)<0 from (by decide)) a0)))))) (Za.seq (Za.cond_t (by rfl) c2 (Za.asc (Za.csi (Za.seq (Za.go Zp 400 [] [4,8,9,10,11,13,14,15,17,25,26] a0) (Za.seq (Za.block hl8) (Za.go (t:=(dds 4 (.own 1 kq (lm qs)::(dds 3 (vi s::(.own 1 k (lm (us2.set (Int.toNat (i64.wrap (j+n))) (u32.wrap ((us2.getD (Int.toNat (i64.wrap (j+n))) 0)+(u32.wrap cc)))))::(vl vs::(vi n::(dds 1 (.val (.int .u64 t)::(.val (.int .u64 t2)::(vi j::(dds 1 (.val (.int .u64 (u64.wrap (g-1)))::(dds 264 []))))))))))))))) Zp 400 [.v (.int .u32 (us2.getD (Int.toNat (i64.wrap (j+n))) 0)),.l (lm (us2.set (Int.toNat (i64.wrap (j+n))) (u32.wrap ((us2.getD (Int.toNat (i64.wrap (j+n))) 0)+(u32.wrap cc)))))] [4,8,9,10,11,13,14,15,17] (ac n1 (ac (Jz n9 n1) (ac n1 (ac (show U4 (lm us2) (Int.toNat (i64.wrap (j+n))*1) [.int .u32 (u32.wrap ((us2.getD (Int.toNat (i64.wrap (j+n))) 0)+(u32.wrap cc)))]=some (lm (us2.set (Int.toNat (i64.wrap (j+n))) (u32.wrap ((us2.getD (Int.toNat (i64.wrap (j+n))) 0)+(u32.wrap cc))))) from (Xi n9 n1)) a0)))))))))) (Za.go (t:=(dds 4 (.own 1 kq (lm (qs.set (Int.toNat j) (u32.wrap (u64.wrap (g-1)))))::(dds 3 (vi s::(.own 1 k (lm (us2.set (Int.toNat (i64.wrap (j+n))) (u32.wrap ((us2.getD (Int.toNat (i64.wrap (j+n))) 0)+(u32.wrap cc)))))::(vl vs::(vi n::(dds 1 (.val (.int .u64 t)::(.val (.int .u64 t2)::(vi j::(dds 266 []))))))))))))) Zp 400 [.l (lm (qs.set (Int.toNat j) (u32.wrap (u64.wrap (g-1)))))] [4,8,9,10,11,13,14,15] (ac n10 (ac (show U4 (lm qs) (Int.toNat j*1) [.int .u32 (u32.wrap (u64.wrap (g-1)))]=some (lm (qs.set (Int.toNat j) (u32.wrap (u64.wrap (g-1))))) from (Xi n11 n10)) a0)))))))))))))) (Za.go Zp 400 [] [4,8,9,10,11,13,14,15] a0)))
theorem Zsw (k:Nat) (us:List Int) (vs:List Int) (n:Int) (t:Int) (t2:Int) (kq:Nat) (qs:List Int) (s:Int) (j:Int) (us1:List Int) (g r b c:Int) (c1:(decide (j>=0))=true) (c2:((Int.fdiv (u64.wrap ((u64.wrap ((u64.wrap (us1.getD (Int.toNat (i64.wrap (j+n))) 0))-c))-b)) (2^(min (Int.toNat 63) (IntKind.bits .u64)))) != 0)=false) (n1:0<=(i64.wrap (j+n))/\(i64.wrap (j+n))<(k:Int)) (n2:us.length=k) (n3:0<=(i64.wrap ((i64.wrap (j+n))-1))/\(i64.wrap ((i64.wrap (j+n))-1))<(k:Int)) (n4:¬ t=0) (hl5:Za Yir (.loop Kh) (Xy k us vs n t t2 kq qs s j (u64.wrap (Int.tdiv (u64.wrap ((BitVec.ofInt (IntKind.bits .u64) (u64.wrap ((u64.wrap (us.getD (Int.toNat (i64.wrap (j+n))) 0))*2^(min (Int.toNat 32) (IntKind.bits .u64)))) ||| BitVec.ofInt (IntKind.bits .u64) (u64.wrap (us.getD (Int.toNat (i64.wrap ((i64.wrap (j+n))-1))) 0))).toNat)) t)) (Int.tmod (u64.wrap ((BitVec.ofInt (IntKind.bits .u64) (u64.wrap ((u64.wrap (us.getD (Int.toNat (i64.wrap (j+n))) 0))*2^(min (Int.toNat 32) (IntKind.bits .u64)))) ||| BitVec.ofInt (IntKind.bits .u64) (u64.wrap (us.getD (Int.toNat (i64.wrap ((i64.wrap (j+n))-1))) 0))).toNat)) t)) (.exit 2) (Xy k us vs n t t2 kq qs s j g r)) (hl6:Za Yir (.loop Nz) (H4 k us vs n t t2 kq qs s j g 0 0 0) (.exit 4) (H4 k us1 vs n t t2 kq qs s j g b c n)) (n7:us1.length=k) (n8:0<=j/\j<(kq:Int)) (n9:qs.length=kq):Za Yir Lb (Hx k us vs n t t2 kq qs s j) .norm (Hx k (us1.set (Int.toNat (i64.wrap (j+n))) (u32.wrap (u64.wrap ((u64.wrap ((u64.wrap (us1.getD (Int.toNat (i64.wrap (j+n))) 0))-c))-b)))) vs n t t2 kq (qs.set (Int.toNat j) (u32.wrap g)) s (i64.wrap (j-1))):=(Za.seq (Za.go (t:=(dds 4 (.own 1 kq (lm qs)::(dds 3 (vi s::(.own 1 k (lm us)::(vl vs::(vi n::(dds 1 (.val (.int .u64 t)::(.val (.int .u64 t2)::(vi j::(dds 266 []))))))))))))) Zp 400 [.b true] [4,8,9,10,11,13,14,15] (ac c1 a0)) (Za.seq (Za.block_norm (Za.asc (Za.seq (Za.go Zp 400 [.v (.int .u32 (us.getD (Int.toNat (i64.wrap (j+n))) 0)),.v (.int .u32 (us.getD (Int.toNat (i64.wrap ((i64.wrap (j+n))-1))) 0))] [4,8,9,10,11,13,14,15,17,18] (ac n1 (ac (Jz n2 n1) (ac (show ¬ (32:Int)<0 from (by decide)) (ac n3 (ac (Jz n2 n3) (ac n4 (ac n4 a0)))))))) (Za.seq (Za.block hl5) (Za.csi (Za.seq (Za.go Zp 400 [] [4,8,9,10,11,13,14,15,17,19,20,21] a0) (Za.seq (Za.block hl6) (Za.asc (Za.csi (Za.seq (Za.go (t:=(dds 4 (.own 1 kq (lm qs)::(dds 3 (vi s::(.own 1 k (lm (us1.set (Int.toNat (i64.wrap (j+n))) (u32.wrap (u64.wrap ((u64.wrap ((u64.wrap (us1.getD (Int.toNat (i64.wrap (j+n))) 0))-c))-b)))))::(vl vs::(vi n::(dds 1 (.val (.int .u64 t)::(.val (.int .u64 t2)::(vi j::(dds 1 (.val (.int .u64 g)::(dds 181 (.val (.bool ((Int.fdiv (u64.wrap ((u64.wrap ((u64.wrap (us1.getD (Int.toNat (i64.wrap (j+n))) 0))-c))-b)) (2^(min (Int.toNat 63) (IntKind.bits .u64)))) != 0))::(dds 82 []))))))))))))))))) Zp 400 [.v (.int .u32 (us1.getD (Int.toNat (i64.wrap (j+n))) 0)),.l (lm (us1.set (Int.toNat (i64.wrap (j+n))) (u32.wrap (u64.wrap ((u64.wrap ((u64.wrap (us1.getD (Int.toNat (i64.wrap (j+n))) 0))-c))-b)))))] [4,8,9,10,11,13,14,15,17,199] (ac n1 (ac (Jz n7 n1) (ac n1 (ac (show U4 (lm us1) (Int.toNat (i64.wrap (j+n))*1) [.int .u32 (u32.wrap (u64.wrap ((u64.wrap ((u64.wrap (us1.getD (Int.toNat (i64.wrap (j+n))) 0))-c))-b)))]=some (lm (us1.set (Int.toNat (i64.wrap (j+n))) (u32.wrap (u64.wrap ((u64.wrap ((u64.wrap (us1.getD (Int.toNat (i64.wrap (j+n))) 0))-c))-b))))) from (Xi n7 n1)) (ac (show ¬ (63:Int)<0 from (by decide)) a0)))))) (Za.seq (Za.cond_f (by rfl) c2 (Za.go (t:=(dds 4 (.own 1 kq (lm qs)::(dds 3 (vi s::(.own 1 k (lm (us1.set (Int.toNat (i64.wrap (j+n))) (u32.wrap (u64.wrap ((u64.wrap ((u64.wrap (us1.getD (Int.toNat (i64.wrap (j+n))) 0))-c))-b)))))::(vl vs::(vi n::(dds 1 (.val (.int .u64 t)::(.val (.int .u64 t2)::(vi j::(dds 1 (.val (.int .u64 g)::(dds 264 []))))))))))))))) Zp 400 [] [4,8,9,10,11,13,14,15,17] a0)) (Za.go (t:=(dds 4 (.own 1 kq (lm (qs.set (Int.toNat j) (u32.wrap g)))::(dds 3 (vi s::(.own 1 k (lm (us1.set (Int.toNat (i64.wrap (j+n))) (u32.wrap (u64.wrap ((u64.wrap ((u64.wrap (us1.getD (Int.toNat (i64.wrap (j+n))) 0))-c))-b)))))::(vl vs::(vi n::(dds 1 (.val (.int .u64 t)::(.val (.int .u64 t2)::(vi j::(dds 266 []))))))))))))) Zp 400 [.l (lm (qs.set (Int.toNat j) (u32.wrap g)))] [4,8,9,10,11,13,14,15] (ac n8 (ac (show U4 (lm qs) (Int.toNat j*1) [.int .u32 (u32.wrap g)]=some (lm (qs.set (Int.toNat j) (u32.wrap g))) from (Xi n9 n8)) a0)))))))))))))) (Za.go Zp 400 [] [4,8,9,10,11,13,14,15] a0)))
theorem Zsv (k:Nat) (us:List Int) (vs:List Int) (n:Int) (t:Int) (t2:Int) (kq:Nat) (qs:List Int) (s:Int) (j:Int)  (c1:(decide (j>=0))=false):Za Yir Lb (Hx k us vs n t t2 kq qs s j) (.exit 0) (Hx k us vs n t t2 kq qs s j):=(Za.seq_out (Za.go Zp 400 [.b false] [4,8,9,10,11,13,14,15] (ac c1 a0)) (by nofun))
def K9 (k:Nat) (us:List Int) (n:Int) (kq:Nat) (qs:List Int) (kr:Nat) (rs:List Int) (s:Int) (i:Int):Zg:=(dds 4 (.own 1 kq (lm qs)::(.own 1 kr (lm rs)::(dds 2 (.val (.int .i64 s)::(.own 1 k (lm us)::(dds 1 (.val (.int .i64 n)::(dds 16 (.val (.int .i64 i)::(dds 253 [])))))))))))
theorem Zm3 (k:Nat) (us:List Int) (n:Int) (kq:Nat) (qs:List Int) (kr:Nat) (rs:List Int) (s:Int) (i:Int)  (c1:(decide (i<n))=true) (c2:(decide (s>0))=true) (n1:0<=i/\i<(k:Int)) (n2:us.length=k) (n3:¬ (u64.wrap s)<0) (n4:0<=i/\i<(kr:Int)) (n5:rs.length=kr) (n6:(rs.set (Int.toNat i) (Int.fdiv (us.getD (Int.toNat i) 0) (2^(min (Int.toNat (u64.wrap s)) (IntKind.bits .u32))))).length=kr) (n7:0<=(i64.wrap (i+1))/\(i64.wrap (i+1))<(k:Int)) (n8:¬ (u64.wrap (i64.wrap (32-s)))<0):Za Yir Em (K9 k us n kq qs kr rs s i) .norm (K9 k us n kq qs kr ((rs.set (Int.toNat i) (Int.fdiv (us.getD (Int.toNat i) 0) (2^(min (Int.toNat (u64.wrap s)) (IntKind.bits .u32))))).set (Int.toNat i) (u32.wrap ((BitVec.ofInt (IntKind.bits .u32) ((rs.set (Int.toNat i) (Int.fdiv (us.getD (Int.toNat i) 0) (2^(min (Int.toNat (u64.wrap s)) (IntKind.bits .u32))))).getD (Int.toNat i) 0) ||| BitVec.ofInt (IntKind.bits .u32) (u32.wrap ((us.getD (Int.toNat (i64.wrap (i+1))) 0)*2^(min (Int.toNat (u64.wrap (i64.wrap (32-s)))) (IntKind.bits .u32))))).toNat))) s (i64.wrap (i+1))):=(Za.go Zp 400 [.b true,.v (.int .u32 (us.getD (Int.toNat i) 0)),.l (lm (rs.set (Int.toNat i) (Int.fdiv (us.getD (Int.toNat i) 0) (2^(min (Int.toNat (u64.wrap s)) (IntKind.bits .u32)))))),.b true,.v (.int .u32 ((rs.set (Int.toNat i) (Int.fdiv (us.getD (Int.toNat i) 0) (2^(min (Int.toNat (u64.wrap s)) (IntKind.bits .u32))))).getD (Int.toNat i) 0)),.v (.int .u32 (us.getD (Int.toNat (i64.wrap (i+1))) 0)),.l (lm ((rs.set (Int.toNat i) (Int.fdiv (us.getD (Int.toNat i) 0) (2^(min (Int.toNat (u64.wrap s)) (IntKind.bits .u32))))).set (Int.toNat i) (u32.wrap ((BitVec.ofInt (IntKind.bits .u32) ((rs.set (Int.toNat i) (Int.fdiv (us.getD (Int.toNat i) 0) (2^(min (Int.toNat (u64.wrap s)) (IntKind.bits .u32))))).getD (Int.toNat i) 0) ||| BitVec.ofInt (IntKind.bits .u32) (u32.wrap ((us.getD (Int.toNat (i64.wrap (i+1))) 0)*2^(min (Int.toNat (u64.wrap (i64.wrap (32-s)))) (IntKind.bits .u32))))).toNat))))] [4,5,8,9,11,28] (ac c1 (ac n1 (ac (Jz n2 n1) (ac n3 (ac n4 (ac (show U4 (lm rs) (Int.toNat i*1) [.int .u32 (Int.fdiv (us.getD (Int.toNat i) 0) (2^(min (Int.toNat (u64.wrap s)) (IntKind.bits .u32))))]=some (lm (rs.set (Int.toNat i) (Int.fdiv (us.getD (Int.toNat i) 0) (2^(min (Int.toNat (u64.wrap s)) (IntKind.bits .u32)))))) from (Xi n5 n4)) (ac c2 (ac n4 (ac (Jz n6 n4) (ac n7 (ac (Jz n2 n7) (ac n8 (ac n4 (ac (show U4 (lm (rs.set (Int.toNat i) (Int.fdiv (us.getD (Int.toNat i) 0) (2^(min (Int.toNat (u64.wrap s)) (IntKind.bits .u32)))))) (Int.toNat i*1) [.int .u32 (u32.wrap ((BitVec.ofInt (IntKind.bits .u32) ((rs.set (Int.toNat i) (Int.fdiv (us.getD (Int.toNat i) 0) (2^(min (Int.toNat (u64.wrap s)) (IntKind.bits .u32))))).getD (Int.toNat i) 0) ||| BitVec.ofInt (IntKind.bits .u32) (u32.wrap ((us.getD (Int.toNat (i64.wrap (i+1))) 0)*2^(min (Int.toNat (u64.wrap (i64.wrap (32-s)))) (IntKind.bits .u32))))).toNat))]=some (lm ((rs.set (Int.toNat i) (Int.fdiv (us.getD (Int.toNat i) 0) (2^(min (Int.toNat (u64.wrap s)) (IntKind.bits .u32))))).set (Int.toNat i) (u32.wrap ((BitVec.ofInt (IntKind.bits .u32) ((rs.set (Int.toNat i) (Int.fdiv (us.getD (Int.toNat i) 0) (2^(min (Int.toNat (u64.wrap s)) (IntKind.bits .u32))))).getD (Int.toNat i) 0) ||| BitVec.ofInt (IntKind.bits .u32) (u32.wrap ((us.getD (Int.toNat (i64.wrap (i+1))) 0)*2^(min (Int.toNat (u64.wrap (i64.wrap (32-s)))) (IntKind.bits .u32))))).toNat)))) from (Xi n6 n4)) a0)))))))))))))))
theorem Zm2 (k:Nat) (us:List Int) (n:Int) (kq:Nat) (qs:List Int) (kr:Nat) (rs:List Int) (s:Int) (i:Int)  (c1:(decide (i<n))=true) (c2:(decide (s>0))=false) (n1:0<=i/\i<(k:Int)) (n2:us.length=k) (n3:¬ (u64.wrap s)<0) (n4:0<=i/\i<(kr:Int)) (n5:rs.length=kr):Za Yir Em (K9 k us n kq qs kr rs s i) .norm (K9 k us n kq qs kr (rs.set (Int.toNat i) (Int.fdiv (us.getD (Int.toNat i) 0) (2^(min (Int.toNat (u64.wrap s)) (IntKind.bits .u32))))) s (i64.wrap (i+1))):=(Za.go Zp 400 [.b true,.v (.int .u32 (us.getD (Int.toNat i) 0)),.l (lm (rs.set (Int.toNat i) (Int.fdiv (us.getD (Int.toNat i) 0) (2^(min (Int.toNat (u64.wrap s)) (IntKind.bits .u32)))))),.b false] [4,5,8,9,11,28] (ac c1 (ac n1 (ac (Jz n2 n1) (ac n3 (ac n4 (ac (show U4 (lm rs) (Int.toNat i*1) [.int .u32 (Int.fdiv (us.getD (Int.toNat i) 0) (2^(min (Int.toNat (u64.wrap s)) (IntKind.bits .u32))))]=some (lm (rs.set (Int.toNat i) (Int.fdiv (us.getD (Int.toNat i) 0) (2^(min (Int.toNat (u64.wrap s)) (IntKind.bits .u32)))))) from (Xi n5 n4)) (ac c2 a0))))))))
theorem Zm1 (k:Nat) (us:List Int) (n:Int) (kq:Nat) (qs:List Int) (kr:Nat) (rs:List Int) (s:Int) (i:Int)  (c1:(decide (i<n))=false):Za Yir Em (K9 k us n kq qs kr rs s i) (.exit 8) (K9 k us n kq qs kr rs s i):=(Za.go Zp 400 [.b false] [4,5,8,9,11,28] (ac c1 a0))
theorem Zgw (xs ys:List Int) (cm:Int) (c1:(decide (cm<0))=true) (n1:List.length (lm xs)=xs.length*1) (n2:xs.length<=35184372088832) (n3:Zc Yir 118 [.sl xs.length (lm xs),.sl ys.length (lm ys)] (.int .i64 cm)):Zc Yir 133 [.sl xs.length (lm xs),.sl ys.length (lm ys)] (.tup [.sl 0 [],.sl xs.length (lm xs)]):=Zc.of_bodyW (fn:=Td) (s:=(dds 1 (.val (.sl ys.length (lm ys))::(dds 2 (.own 1 0 []::(.own 1 xs.length (lm xs)::(dds 276 []))))))) (ex := .ret) rfl rfl (Za.asc (Za.asc (Za.asc (Za.asc (Za.asc (Za.asc (Za.asc (Za.csi (Za.seq_out (Za.go Zp 400 [.r (.int .i64 cm),.b true] [1,4,5] (ac n3 (ac c1 (ac n1 (ac n2 a0))))) (by nofun)))))))))) (by nofun) rfl
theorem Zgv (xs ys zs:List Int) (cm rr:Int) (c1:(decide (cm<0))=false) (c2:((ys.length:Int)==1)=true) (n1:Zc Yir 118 [.sl xs.length (lm xs),.sl ys.length (lm ys)] (.int .i64 cm)) (n2:0<=(0:Int)/\(0:Int)<(ys.length:Int)) (n3:Zc Yir 144 [.sl xs.length (lm xs),.int .u32 (ys.getD (Int.toNat 0) 0)] (.tup [.sl zs.length (lm zs),.int .u32 rr])):Zc Yir 133 [.sl xs.length (lm xs),.sl ys.length (lm ys)] (.tup [.sl zs.length (lm zs),.sl 1 [.int .u32 rr]]):=Zc.of_bodyW (fn:=Td) (s:=(dds 1 (.val (.sl ys.length (lm ys))::(dds 2 (.val (.sl zs.length (lm zs))::(.own 1 1 [.int .u32 rr]::(dds 276 []))))))) (ex := .ret) rfl rfl (Za.asc (Za.asc (Za.asc (Za.asc (Za.asc (Za.asc (Za.asc (Za.csi (Za.seq_out (Za.go Zp 400 [.r (.int .i64 cm),.b false,.b true,.v (.int .u32 (ys.getD (Int.toNat 0) 0)),.r (.tup [.sl zs.length (lm zs),.int .u32 rr])] [1,4,5] (ac n1 (ac c1 (ac c2 (ac n2 (ac (Qe n2) (ac n3 a0))))))) (by nofun)))))))))) (by nofun) rfl
theorem Zgu (xs ys us ws us1 vs qs rs:List Int) (cm s n t t2 j:Int) (k kq kr:Nat) (c1:(decide (cm<0))=false) (c2:((ys.length:Int)==1)=false) (n1:Zc Yir 118 [.sl xs.length (lm xs),.sl ys.length (lm ys)] (.int .i64 cm)) (n2:0<=(i64.wrap ((ys.length:Int)-1))/\(i64.wrap ((ys.length:Int)-1))<(ys.length:Int)) (n3:Zc Yir 145 [.int .u32 (ys.getD (Int.toNat (i64.wrap ((ys.length:Int)-1))) 0)] (.int .i64 s)) (n4:0<=(ys.length:Int)) (n5:0<=(Int.toNat (ys.length:Int))/\(Int.toNat (ys.length:Int))<=ws.length/\ws.length<=ws.length/\(false=true->true=true)) (n6:Zc Yir 146 [.sl xs.length (lm xs),.int .i64 s] (.fresh 1 us.length (lm us))) (n7:Zc Yir 146 [.sl ys.length (lm ys),.int .i64 s] (.fresh 1 ws.length (lm ws))) (n8:0<=(i64.wrap ((i64.wrap ((xs.length:Int)-(ys.length:Int)))+1))/\(i64.wrap ((i64.wrap ((xs.length:Int)-(ys.length:Int)))+1))<=1048576) (n9:0<=(i64.wrap ((ys.length:Int)-1))/\(i64.wrap ((ys.length:Int)-1))<((((Int.toNat (ys.length:Int))-0):Nat):Int)) (n10:0<=(i64.wrap ((ys.length:Int)-2))/\(i64.wrap ((ys.length:Int)-2))<((((Int.toNat (ys.length:Int))-0):Nat):Int)) (hl11:Za Yir (.loop Lb) ((dds 4 (.own 1 (Int.toNat (i64.wrap ((i64.wrap ((xs.length:Int)-(ys.length:Int)))+1))) (J3 [.int .u32 0] (Int.toNat (i64.wrap ((i64.wrap ((xs.length:Int)-(ys.length:Int)))+1))))::(dds 3 (.val (.int .i64 s)::(.own 1 us.length (lm us)::(.val (.sl ((Int.toNat (ys.length:Int))-0) (List.take (((Int.toNat (ys.length:Int))-0)*1) (List.drop (0*1) (lm ws))))::(.val (.int .i64 (ys.length:Int))::(dds 1 (.val (.int .u64 (u64.wrap (((ws.drop 0).take ((Int.toNat (ys.length:Int))-0)).getD (Int.toNat (i64.wrap ((ys.length:Int)-1))) 0)))::(.val (.int .u64 (u64.wrap (((ws.drop 0).take ((Int.toNat (ys.length:Int))-0)).getD (Int.toNat (i64.wrap ((ys.length:Int)-2))) 0)))::(.val (.int .i64 (i64.wrap ((xs.length:Int)-(ys.length:Int))))::(dds 266 []))))))))))))) (.exit 0) (Hx k us1 vs n t t2 kq qs s j)) (n12:0<=n/\n<=1048576) (hl13:Za Yir (.loop Em) ((dds 4 (.own 1 kq (lm qs)::(.own 1 (Int.toNat n) (J3 [.int .u32 0] (Int.toNat n))::(dds 2 (.val (.int .i64 s)::(.own 1 k (lm us1)::(dds 1 (.val (.int .i64 n)::(dds 16 (.val (.int .i64 0)::(dds 253 [])))))))))))) (.exit 8) (K9 k us1 n kq qs kr rs s n)):Zc Yir 133 [.sl xs.length (lm xs),.sl ys.length (lm ys)] (.tup [.sl kq (lm qs),.sl kr (lm rs)]):=Zc.of_bodyW (fn:=Td) (s:=(dds 4 (.own 1 kq (lm qs)::(.own 1 kr (lm rs)::(dds 276 []))))) (ex := .ret) rfl rfl (Za.asc (Za.asc (Za.asc (Za.asc (Za.asc (Za.asc (Za.asc (Za.csi (Za.seq (Za.go Zp 400 [.r (.int .i64 cm),.b false,.b false,.v (.int .u32 (ys.getD (Int.toNat (i64.wrap ((ys.length:Int)-1))) 0)),.r (.int .i64 s),.r (.fresh 1 us.length (lm us)),.r (.fresh 1 ws.length (lm ws)),.v (.int .u32 (((ws.drop 0).take ((Int.toNat (ys.length:Int))-0)).getD (Int.toNat (i64.wrap ((ys.length:Int)-1))) 0)),.v (.int .u32 (((ws.drop 0).take ((Int.toNat (ys.length:Int))-0)).getD (Int.toNat (i64.wrap ((ys.length:Int)-2))) 0))] [4,8,9,10,11,13,14,15] (ac n1 (ac c1 (ac c2 (ac n2 (ac (Qe n2) (ac n3 (ac n6 (ac n7 (ac n4 (ac n5 (ac n8 (ac n9 (ac (E4 n9 n5) (ac n10 (ac (E4 n10 n5) a0)))))))))))))))) (Za.seq (Za.block hl11) (Za.csi (Za.seq (Za.go Zp 400 [] [4,5,8,9,11,28] (ac n12 a0)) (Za.seq (Za.block hl13) (Za.go Zp 400 [] [4,5] a0)))))))))))))) (by nofun) rfl
def TQA:Jx:=TWB
theorem Zim:Qn Yir TQA:=Zp
end Go.Proofs.Ythdpfjffdipipaa

namespace Go.Proofs.Ythdpfjffdipipaa
open Go.IntKind (i64 u64 u32)
open Go.Ai
set_option maxRecDepth 100000
theorem Zms {xs:List Int} {d:Int} (hx:U32 xs) (hd:0<d/\d<4294967296) (hN:xs.length<=1048576):∀ (i:Nat) (qs:List Int) (r:Int),i<=xs.length->qs.length=xs.length->U32 qs->0<=r/\r<d->(∀ t,t<i->qs.getD t 0=0) ->
  ∃ qs' r',Za Yir (.loop Zib) (Sy xs d xs.length qs r ((i:Int)-1)) (.exit 0) (Sy xs d xs.length qs' r' (-1))/\qs'.length=xs.length/\U32 qs'/\(0<=r'/\r'<d)/\d*Zn qs'+r'=d*Zn qs+4294967296^i*r+Zn (xs.take i):=by
 intro i;induction i with
 | zero =>
  intro qs r _ hl hu hr _;refine⟨qs,r,Za.loop_out (Zsk xs d xs.length qs r _ (by simp)) (by nofun),hl,hu,hr,by simp[Zn]⟩
 | succ i ih =>
  intro qs r hi hl hu hr hz;have ei:(((i+1:Nat):Int)-1)=(i:Nat):=by omega
  have ej:i64.wrap ((i:Int)-1)=(i:Int)-1:=w64 (by omega) (by omega);have hxi:=Zx hx i;have hk:=Zsl xs d xs.length qs r (i:Nat) (by simp) (by omega) (by rw[Wu (by omega)];omega) (by omega) hl;rw[ej,Int.toNat_natCast,Zbe (by omega) hxi,Wu (n:=d) (by omega)] at hk;have hv0:0<=r*4294967296+xs.getD i 0:=by omega
  rw[Int.tdiv_eq_ediv_of_nonneg hv0,Int.tmod_eq_emod_of_nonneg hv0] at hk;generalize hv:r*4294967296+xs.getD i 0=v at *
  have hm:=Int.mul_ediv_add_emod v d;have hm0:=Int.emod_nonneg v (show d ≠ 0 by omega);have hm1:=Int.emod_lt_of_pos v hd.1;have hq0:0<=v / d:=Int.ediv_nonneg hv0 (by omega);have hq1:v / d<4294967296:=by
   apply Int.ediv_lt_of_lt_mul hd.1;have:=Int.mul_le_mul_of_nonneg_right (show r<=d-1 by omega) (show (0:Int)<=4294967296 by omega);have:(d-1)*4294967296=4294967296*d-4294967296:=by omega
   omega
  rw[Wu (n:=v / d) (by omega),w32 ⟨hq0,hq1⟩] at hk;obtain⟨qs',r',g1,g2,g3,g4,g5⟩:=ih (qs.set i (v / d)) (v % d) (by omega) (by simpa using hl) (Jf hu ⟨hq0,hq1⟩) ⟨hm0,hm1⟩ (fun t ht=>by rw[Qm (by omega)];exact hz t (by omega));rw[ei];refine⟨qs',r',Za.loop hk g1,g2,g3,g4,?_⟩;rw[g5,Xd _ _ _ (by omega),hz i (by omega),Jt xs i (by omega),Int.pow_succ];generalize (4294967296:Int)^i=P at *
  have e2:xs.getD i 0=d*(v / d)+v % d-r*4294967296:=by omega
  rw[e2];grind
theorem Ls {xs:List Int} {d:Int} (hx:U32 xs) (hd:0<d/\d<4294967296) (hN:xs.length<=1048576):∃ qs r,(qs:List Int).length=xs.length/\U32 qs/\(0<=r/\r<d)/\d*Zn qs+r=Zn xs/\Zc Yir 144 [.sl xs.length (lm xs),.int .u32 d] (.tup [.sl qs.length (lm qs),.int .u32 r]):=by
 obtain⟨qs,r,h1,h2,h3,h4,h5⟩:=Zms hx hd hN xs.length (List.replicate xs.length 0) 0 (Nat.le_refl _) (by simp) (X2 _) (by omega) (fun t _=>J8 _ _);refine⟨qs,r,h2,h3,h4,?_,?_⟩
 ·rw[h5,Ub,List.take_length];omega
 ·have h:=Zrg xs qs d r (-1) xs.length (by omega) (by
   rw[Int.toNat_natCast,U1,w64 (by omega) (by omega)];exact h1)
  rw[w32 (n:=r) (by omega)] at h;rw[h2];exact h
theorem Zmr {xs:List Int} {s:Nat} (hx:U32 xs) (hs:s<32) (hN:xs.length<1048576):∀ (r i:Nat) (os:List Int),i+r=xs.length->os.length=xs.length+1->U32 os->Zn os=2^s*Zn (xs.take i)->os.getD i 0<2^s->(∀ t,i<t->os.getD t 0=0) ->
  ∃ os',Za Yir (.loop Zia) (Sx xs (s:Nat) (xs.length+1) os (xs.length:Nat) (i:Nat)) (.exit 0) (Sx xs (s:Nat) (xs.length+1) os' (xs.length:Nat) (xs.length:Nat))/\os'.length=xs.length+1/\U32 os'/\Zn os'=2^s*Zn xs:=by
 intro r;induction r with
 | zero =>
  intro i os hi hl hu hv _ _;have:i=xs.length:=by omega
  subst this;exact⟨os,Za.loop_out (Zsi xs _ _ os _ _ (by simp)) (by nofun),hl,hu,by rw[hv,List.take_length]⟩
 | succ r ih =>
  intro i os hi hl hu hv hc hz;have ei:i64.wrap ((i:Int)+1)=((i+1:Nat):Int):=by rw[w64 (by omega) (by omega)];omega
  have hxi:=Zx hx i;have hoi:=Zx hu i;obtain⟨p0,p1,p2,q,q0,q1⟩:=Lk hxi hs;have es:(2:Int)^(min (Int.toNat (u64.wrap (s:Int))) (IntKind.bits .u64))=2^s:=by
   rw[Wu (by omega),Int.toNat_natCast];congr 1;show min s 64=s;omega
  have hk:=Zsj xs (s:Nat) (xs.length+1) os (xs.length:Nat) (i:Nat) (by simp;omega) (by omega) (by rw[Wu (by omega)];omega) (by omega) hl (by rw[ei];omega) (by simpa using hl);rw[ei,Int.toNat_natCast,Int.toNat_natCast,Wu (n:=xs.getD i 0) (by omega),es,Wu ⟨p0,p1⟩,fd32,H9 (xs.getD i 0*2^s),q1] at hk;have hqs:q*2^s<4294967296:=by rw[<- q1];omega
  rw[or32 q0 hqs (by omega) ⟨hoi.1,hc⟩] at hk;have hhi:0<=xs.getD i 0*2^s / 4294967296:=by omega
  have hp2:(2:Int)^s<=4294967296:=by have:=Wz (show s<=32 by omega);rwa [show (2:Int)^32=4294967296 by decide] at this
  rw[w32 ⟨hhi,by omega⟩] at hk;have hsum:0<=q*2^s+os.getD i 0/\q*2^s+os.getD i 0<4294967296:=by
   have hq2:0<=q*2^s:=by rw[<- q1];omega
   refine⟨by omega,?_⟩;have e:(4294967296:Int)=2^(32-s)*2^s:=by
    rw[<- Int.pow_add,show 32-s+s=32 by omega];decide
   rw[e] at hqs |-;have hp:=Qc s;have:=Int.lt_of_mul_lt_mul_right hqs (by omega);have:=Int.mul_le_mul_of_nonneg_right (show q+1<=2^(32-s) by omega) (show (0:Int)<=2^s by omega);rw[Int.add_mul,Int.one_mul] at this;omega
  obtain⟨os',g1,g2,g3,g4⟩:=ih (i+1) ((os.set i (q*2^s+os.getD i 0)).set (i+1) (xs.getD i 0*2^s / 4294967296)) (by omega) (by simpa using hl) (Jf (Jf hu hsum) ⟨hhi,by omega⟩) (by
    rw[Xd _ _ _ (by simp;omega),Xd _ _ _ (by omega),Qm (by omega),hz (i+1) (by omega),hv,Jt xs i (by omega),Int.pow_succ];have e3:xs.getD i 0*2^s=4294967296*(xs.getD i 0*2^s / 4294967296)+q*2^s:=by omega
    generalize (4294967296:Int)^i=P at *
    generalize xs.getD i 0*2^s / 4294967296=H at *
    generalize os.getD i 0=o at *
    generalize q*2^s=Q at *
    have e4:(2:Int)^s*(Zn (xs.take i)+P*xs.getD i 0)=2^s*Zn (xs.take i)+P*(xs.getD i 0*2^s):=by grind
    rw[e4,e3];grind) (by
    rw[show ((os.set i (q*2^s+os.getD i 0)).set (i+1) (xs.getD i 0*2^s / 4294967296)).getD (i+1) 0=xs.getD i 0*2^s / 4294967296 by simp[List.getD_eq_getElem?_getD,show i+1<os.length by omega]];exact p2) (fun t ht=>by rw[Qm (by omega),Qm (by omega)];exact hz t (by omega))
  exact⟨os',Za.loop hk g1,g2,g3,g4⟩
theorem B4 {xs:List Int} {s:Nat} (hx:U32 xs) (hs:s<32) (hN:xs.length<1048576):∃ os,(os:List Int).length=xs.length+1/\U32 os/\Zn os=2^s*Zn xs/\Zc Yir 146 [.sl xs.length (lm xs),.int .i64 (s:Nat)] (.fresh 1 os.length (lm os)):=by
 obtain⟨os,h1,h2,h3,h4⟩:=Zmr hx hs hN xs.length 0 (List.replicate (xs.length+1) 0) (by omega) (by simp) (X2 _) (by rw[Ub];simp[Zn]) (by rw[J8];exact Qc s) (fun t _=>J8 _ _);refine⟨os,h2,h3,h4,?_⟩;have e:i64.wrap ((xs.length:Int)+1)=((xs.length+1:Nat):Int):=by rw[w64 (by omega) (by omega)];omega
 have h:=Zre xs os (s:Nat) (xs.length:Nat) (xs.length:Nat) (xs.length+1) (by rw[e];omega) (by rw[e,Int.toNat_natCast,U1];exact h1);rw[h2];exact h
section
variable {k:Nat} {us vs:List Int} {kq:Nat} {qs:List Int} {s:Int} {j m:Nat}
theorem Zhm (hl:us.length=k) (hk:k<=1048577) (hj:j+m+2<k) (h:Dig m (Zn vs) (Zn (us.drop j)) (vs.getD (m+1) 0) (vs.getD m 0) (us.getD (j+m+2) 0) (us.getD (j+m+1) 0) (us.getD (j+m) 0)):∀ (f:Nat) (g r:Int),g.toNat<=f ->
  DigI (Zn vs) (Zn (us.drop j)) (vs.getD (m+1) 0) (us.getD (j+m+2) 0*4294967296+us.getD (j+m+1) 0) g r->r<4294967296 ->
  ∃ g' r',Za Yir (.loop Kh) (Xy k us vs ((m+2:Nat):Int) (vs.getD (m+1) 0) (vs.getD m 0) kq qs s (j:Nat) g r) (.exit 2) (Xy k us vs ((m+2:Nat):Int) (vs.getD (m+1) 0) (vs.getD m 0) kq qs s (j:Nat) g' r') /\
   (0<=g'/\g'<4294967296)/\Zn (us.drop j)<(g'+1)*Zn vs/\g'*Zn vs<Zn (us.drop j)+Zn vs:=by
 have ht:=h.htop;have hnx:=h.hnxt;have hz:=h.hz;have e1:i64.wrap (i64.wrap ((j:Int)+((m+2:Nat):Int))-2)=((j+m:Nat):Int):=by
  rw[w64 (n:=(j:Int)+((m+2:Nat):Int)) (by omega) (by omega),w64 (by omega) (by omega)];omega
 intro f;induction f with
 | zero =>
  intro g r hf i hr;have hg:g=0:=by have:=i.g0;omega
  subst hg;have c2:¬ (r*4294967296+us.getD (j+m) 0<0*vs.getD m 0):=by have:=i.r0;omega
  have k5:=Za7 k us vs ((m+2:Nat):Int) (vs.getD (m+1) 0) (vs.getD m 0) kq qs s (j:Nat) 0 r (by simp) (by
   rw[e1,Int.toNat_natCast,Zbe ⟨i.r0,hr⟩ hz,Wu (n:=0*vs.getD m 0) (by omega),decide_eq_false_iff_not];omega) (by rw[e1];omega) hl
  exact⟨0,r,Za.loop_out k5 (by nofun),by omega,i.up,h.out i (by omega) (Or.inr (by omega))⟩
 | succ f ih =>
  intro g r hf i hr;have hg1:=i.gle;have hg0:=i.g0;have hr0:=i.r0;have hgn:0<=g*vs.getD m 0/\g*vs.getD m 0<18446744073709551616:=by
   have a:=Int.mul_nonneg hg0 hnx.1;have b:=Int.mul_le_mul hg1 (show vs.getD m 0<=4294967295 by omega) hnx.1 (by omega);omega
  have er:u64.wrap (r+vs.getD (m+1) 0)=r+vs.getD (m+1) 0:=Wu (by omega);have ecmp:(decide (u64.wrap (g*vs.getD m 0)>u64.wrap ((BitVec.ofInt (IntKind.bits .u64) (u64.wrap (r*2^(min (Int.toNat 32) (IntKind.bits .u64)))) ||| BitVec.ofInt (IntKind.bits .u64) (u64.wrap (us.getD (Int.toNat (i64.wrap (i64.wrap ((j:Int)+((m+2:Nat):Int))-2))) 0))).toNat)):Bool)=decide (r*4294967296+us.getD (j+m) 0<g*vs.getD m 0):=by
   rw[e1,Int.toNat_natCast,Zbe ⟨hr0,hr⟩ hz,Wu hgn]
  by_cases hc:4294967296<=g\/r*4294967296+us.getD (j+m) 0<g*vs.getD m 0
  ·have i2:=h.step i hc;have hg2:=i2.g0;have eg:u64.wrap (g-1)=g-1:=Wu (by omega);by_cases hbig:4294967296<=r+vs.getD (m+1) 0
   ·have hgs:=h.small_g i2 hbig;have hrun:Za Yir Kh (Xy k us vs ((m+2:Nat):Int) (vs.getD (m+1) 0) (vs.getD m 0) kq qs s (j:Nat) g r) (.exit 2) (Xy k us vs ((m+2:Nat):Int) (vs.getD (m+1) 0) (vs.getD m 0) kq qs s (j:Nat) (u64.wrap (g-1)) (u64.wrap (r+vs.getD (m+1) 0))):=by
     by_cases hg:4294967296<=g
     ·exact Zm9 k us vs _ _ _ kq qs s _ g r (by simpa using hg) (by rw[er];simpa using hbig)
     ·exact Zm7 k us vs _ _ _ kq qs s _ g r (by simp;omega) (by rw[ecmp,decide_eq_true_eq];omega) (by rw[er];simpa using hbig) (by rw[e1];omega) hl
    rw[eg,er] at hrun;exact⟨g-1,_,Za.loop_out hrun (by nofun),⟨hg2,hgs⟩,i2.up,h.out i2 hgs (Or.inl hbig)⟩
   ·have hrun:Za Yir Kh (Xy k us vs ((m+2:Nat):Int) (vs.getD (m+1) 0) (vs.getD m 0) kq qs s (j:Nat) g r) .norm (Xy k us vs ((m+2:Nat):Int) (vs.getD (m+1) 0) (vs.getD m 0) kq qs s (j:Nat) (u64.wrap (g-1)) (u64.wrap (r+vs.getD (m+1) 0))):=by
     by_cases hg:4294967296<=g
     ·exact Zm8 k us vs _ _ _ kq qs s _ g r (by simpa using hg) (by rw[er,decide_eq_false_iff_not];omega)
     ·exact Zm6 k us vs _ _ _ kq qs s _ g r (by simp;omega) (by rw[ecmp,decide_eq_true_eq];omega) (by rw[er,decide_eq_false_iff_not];omega) (by rw[e1];omega) hl
    rw[eg,er] at hrun;obtain⟨g',r',a1,a2⟩:=ih (g-1) (r+vs.getD (m+1) 0) (by omega) i2 (by omega);exact⟨g',r',Za.loop hrun a1,a2⟩
  ·have k5:=Za7 k us vs ((m+2:Nat):Int) (vs.getD (m+1) 0) (vs.getD m 0) kq qs s (j:Nat) g r (by simp;omega) (by rw[ecmp,decide_eq_false_iff_not];omega) (by rw[e1];omega) hl;exact⟨g,r,Za.loop_out k5 (by nofun),by omega,i.up,h.out i (by omega) (Or.inr (by omega))⟩
end
section
variable {k:Nat} {vs:List Int} {t t2:Int} {kq:Nat} {qs:List Int} {s:Int} {j:Nat} {g:Int}
theorem Zhl (hv:U32 vs) (hk:k<=1048577) (hg:0<=g/\g<4294967296) (hj:j+vs.length<=k):∀ (r i:Nat) (us:List Int) (b c:Int),r+i=vs.length->us.length=k->U32 us->0<=b/\b<=1->0<=c/\c<4294967296 ->
  Za Yir (.loop Nz) (H4 k us vs (vs.length:Nat) t t2 kq qs s (j:Nat) g b c (i:Nat)) (.exit 4) (H4 k (Eu g vs j r i us b c).1 vs (vs.length:Nat) t t2 kq qs s (j:Nat) g (Eu g vs j r i us b c).2.1 (Eu g vs j r i us b c).2.2 (vs.length:Nat)):=by
 intro r;induction r with
 | zero =>
  intro i us b c hi _ _ _ _;have:i=vs.length:=by omega
  subst this;exact Za.loop_out (Zm4 k us vs _ t t2 kq qs s _ g b c _ (by simp)) (by nofun)
 | succ r ih =>
  intro i us b c hi hl hu hb hc;have ei:i64.wrap ((i:Int)+1)=((i+1:Nat):Int):=by rw[w64 (by omega) (by omega)];omega
  have eij:i64.wrap ((i:Int)+(j:Int))=((i+j:Nat):Int):=by rw[w64 (by omega) (by omega)];omega
  have hvi:=Zx hv i;have hui:=Zx hu (i+j);have hw:=Zer hg hvi hc;have hgv:=Int.mul_nonneg hg.1 hvi.1;have h1:=Zm5 k us vs (vs.length:Nat) t t2 kq qs s (j:Nat) g b c (i:Nat) (by simp;omega) (by omega) (by rw[eij];omega) hl;rw[eij,ei,Int.toNat_natCast,Int.toNat_natCast,Wu (n:=vs.getD i 0) (by omega),Wu (n:=us.getD (i+j) 0) (by omega),Wu (n:=g*vs.getD i 0) (by omega),Wu hw,fd32,fd63,H9 (g*vs.getD i 0+c)] at h1;generalize hp:g*vs.getD i 0+c=p at *
  rw[Wu (n:=p % 4294967296) (by omega),Js,Js] at h1;have hstep:Eu g vs j (r+1) i us b c=Eu g vs j r (i+1) (us.set (i+j) ((us.getD (i+j) 0-p % 4294967296-b) % 4294967296)) (if us.getD (i+j) 0-p % 4294967296-b<0 then 1 else 0) (p / 4294967296):=by rw[Eu,hp]
  generalize hd:us.getD (i+j) 0-p % 4294967296-b=d at *
  have e1:u32.wrap (((us.getD (i+j) 0-p % 4294967296) % 18446744073709551616-b) % 18446744073709551616)=d % 4294967296:=by rw[H9];omega
  have e2:((us.getD (i+j) 0-p % 4294967296) % 18446744073709551616-b) % 18446744073709551616 / 9223372036854775808=(if d<0 then 1 else 0):=by split <;> omega
  rw[e1,e2] at h1;rw[hstep];exact Za.loop h1 (ih (i+1) _ _ _ (by omega) (by simpa using hl) (Jf hu (by omega)) (by split <;> omega) (by omega))
theorem Zhn (hv:U32 vs) (hk:k<=1048577) (hj:j+vs.length<=k):∀ (r i:Nat) (us:List Int) (c:Int),r+i=vs.length->us.length=k->U32 us->0<=c/\c<=1 ->
  Za Yir (.loop Rf) (D0 k us vs (vs.length:Nat) t t2 kq qs s (j:Nat) g c (i:Nat)) (.exit 6) (D0 k (P0 vs j r i us c).1 vs (vs.length:Nat) t t2 kq qs s (j:Nat) g (P0 vs j r i us c).2 (vs.length:Nat)):=by
 intro r;induction r with
 | zero =>
  intro i us c hi _ _ _;have:i=vs.length:=by omega
  subst this;exact Za.loop_out (Zna k us vs _ t t2 kq qs s _ g c _ (by simp)) (by nofun)
 | succ r ih =>
  intro i us c hi hl hu hc;have ei:i64.wrap ((i:Int)+1)=((i+1:Nat):Int):=by rw[w64 (by omega) (by omega)];omega
  have eij:i64.wrap ((i:Int)+(j:Int))=((i+j:Nat):Int):=by rw[w64 (by omega) (by omega)];omega
  have hvi:=Zx hv i;have hui:=Zx hu (i+j);have h1:=Znb k us vs (vs.length:Nat) t t2 kq qs s (j:Nat) g c (i:Nat) (by simp;omega) (by rw[eij];omega) hl (by omega);rw[eij,ei,Int.toNat_natCast,Int.toNat_natCast,Wu (n:=vs.getD i 0) (by omega),Wu (n:=us.getD (i+j) 0) (by omega),Wu (n:=us.getD (i+j) 0+vs.getD i 0) (by omega),Wu (n:=us.getD (i+j) 0+vs.getD i 0+c) (by omega),fd32,H9] at h1;exact Za.loop h1 (ih (i+1) _ _ (by omega) (by simpa using hl) (Jf hu (by omega)) (by omega))
end
theorem dsign {X c b:Int} (hX:0<=X/\X<4294967296) (hc:0<=c/\c<4294967296) (hb:0<=b/\b<=1) :
  Int.fdiv (u64.wrap (u64.wrap (u64.wrap X-c)-b)) (2^(min (Int.toNat 63) (IntKind.bits .u64)))=(if X-c-b<0 then 1 else 0)/\u32.wrap (u64.wrap (u64.wrap (u64.wrap X-c)-b))=(X-c-b) % 4294967296:=by
 rw[fd63,Wu (n:=X) (by omega),Js,Js,H9];refine⟨?_,by omega⟩;split <;> omega
section
variable {vs:List Int} {m:Nat} {k kq:Nat} {s:Int}
theorem Zmv (hv:U32 vs) (hm:vs.length=m+2) (ht:2147483648<=vs.getD (m+1) 0) (hk:k=kq+vs.length) (hkb:k<=1048577):∀ (i:Nat) (us qs:List Int),i<=kq->us.length=k->U32 us->qs.length=kq->U32 qs->(∀ t,t<i->qs.getD t 0=0)->Zn (us.drop i)<Zn vs ->
  ∃ us' qs',Za Yir (.loop Lb) (Hx k us vs (vs.length:Nat) (vs.getD (m+1) 0) (vs.getD m 0) kq qs s ((i:Int)-1)) (.exit 0) (Hx k us' vs (vs.length:Nat) (vs.getD (m+1) 0) (vs.getD m 0) kq qs' s (-1)) /\
   us'.length=k/\U32 us'/\qs'.length=kq/\U32 qs'/\Zn us'<Zn vs/\Zn us=Zn vs*(Zn qs'-Zn qs)+Zn us':=by
 intro i;induction i with
 | zero =>
  intro us qs _ h1 h2 h3 h4 _ h6;exact⟨us,qs,Za.loop_out (Zsv k us vs _ _ _ kq qs s _ (by simp)) (by nofun),h1,h2,h3,h4,h6,by rw[Int.sub_self,Int.mul_zero,Int.zero_add]⟩
 | succ i ih =>
  intro us qs hi h1 h2 h3 h4 h5 h6;have ei:(((i+1:Nat):Int)-1)=(i:Nat):=by omega
  have ej:i64.wrap ((i:Int)-1)=(i:Int)-1:=w64 (by omega) (by omega);have en:i64.wrap ((i:Int)+(vs.length:Int))=((i+vs.length:Nat):Int):=by rw[w64 (by omega) (by omega)];omega
  have en1:i64.wrap (((i+vs.length:Nat):Int)-1)=((i+m+1:Nat):Int):=by rw[w64 (by omega) (by omega)];omega
  have hD:=dig_of (us:=us) (vs:=vs) (j:=i) (m:=m) h2 hv hm (by omega) ht h6;have hI:=hD.init;have hr1:=Int.emod_lt_of_pos (us.getD (i+m+2) 0*4294967296+us.getD (i+m+1) 0) (show 0<vs.getD (m+1) 0 by omega);have ht2:=hD.htop;obtain⟨g,r,q1,q2,q3,q4⟩:=Zhm (k:=k) (kq:=kq) (qs:=qs) (s:=s) h1 hkb (by omega) hD _ _ _ (Nat.le_refl _) hI (by omega);rw[<- hm] at q1;have hn0:0<=us.getD (i+m+2) 0*4294967296+us.getD (i+m+1) 0:=by have:=hD.hx;have:=hD.hy;omega
  have hq0:=hI.g0;have hq1:=hI.gle;have hl5:Za Yir (.loop Kh) (Xy k us vs (vs.length:Nat) (vs.getD (m+1) 0) (vs.getD m 0) kq qs s (i:Nat) (u64.wrap (Int.tdiv (u64.wrap ((BitVec.ofInt (IntKind.bits .u64) (u64.wrap ((u64.wrap (us.getD (Int.toNat (i64.wrap ((i:Int)+(vs.length:Int)))) 0))*2^(min (Int.toNat 32) (IntKind.bits .u64)))) ||| BitVec.ofInt (IntKind.bits .u64) (u64.wrap (us.getD (Int.toNat (i64.wrap ((i64.wrap ((i:Int)+(vs.length:Int)))-1))) 0))).toNat)) (vs.getD (m+1) 0))) (Int.tmod (u64.wrap ((BitVec.ofInt (IntKind.bits .u64) (u64.wrap ((u64.wrap (us.getD (Int.toNat (i64.wrap ((i:Int)+(vs.length:Int)))) 0))*2^(min (Int.toNat 32) (IntKind.bits .u64)))) ||| BitVec.ofInt (IntKind.bits .u64) (u64.wrap (us.getD (Int.toNat (i64.wrap ((i64.wrap ((i:Int)+(vs.length:Int)))-1))) 0))).toNat)) (vs.getD (m+1) 0))) (.exit 2) (Xy k us vs (vs.length:Nat) (vs.getD (m+1) 0) (vs.getD m 0) kq qs s (i:Nat) g r):=by
   rw[en,en1,Int.toNat_natCast,Int.toNat_natCast,show i+vs.length=i+m+2 by omega,Wu (n:=us.getD (i+m+2) 0) (by have:=hD.hx;omega),Zbe hD.hx hD.hy,Int.tdiv_eq_ediv_of_nonneg hn0,Int.tmod_eq_emod_of_nonneg hn0,Wu ⟨hq0,by omega⟩];exact q1
  have hms:=Zhl (k:=k) (t:=vs.getD (m+1) 0) (t2:=vs.getD m 0) (kq:=kq) (qs:=qs) (s:=s) (j:=i) (g:=g) hv hkb q2 (by omega) vs.length 0 us 0 0 (by omega) h1 h2 (by omega) (by omega);have hmo:=Zes (j:=i) q2 hv vs.length 0 us 0 0 (by omega) (by omega) h2 (by omega) (by omega);have hst:=Zb8 h2 hv (j:=i) (by omega) h6 q2 q3 q4;generalize hM:Eu g vs i vs.length 0 us 0 0=M at *
  obtain⟨m1,m2,m3,m4,_,_⟩:=hmo;obtain⟨d1,d2⟩:=dsign (Zx m2 (i+vs.length)) m4 m3;dsimp only at hst;obtain⟨S1,S2⟩:=hst;have fin:∀ (ws:List Int) (q:Int),StepOk us vs ws i q->(0<=q/\q<4294967296)->Za Yir Lb (Hx k us vs (vs.length:Nat) (vs.getD (m+1) 0) (vs.getD m 0) kq qs s (i:Nat)) .norm (Hx k ws vs (vs.length:Nat) (vs.getD (m+1) 0) (vs.getD m 0) kq (qs.set i q) s ((i:Int)-1)) ->
    ∃ us' qs',Za Yir (.loop Lb) (Hx k us vs (vs.length:Nat) (vs.getD (m+1) 0) (vs.getD m 0) kq qs s (i:Nat)) (.exit 0) (Hx k us' vs (vs.length:Nat) (vs.getD (m+1) 0) (vs.getD m 0) kq qs' s (-1)) /\
   us'.length=k/\U32 us'/\qs'.length=kq/\U32 qs'/\Zn us'<Zn vs/\Zn us=Zn vs*(Zn qs'-Zn qs)+Zn us':=by
   intro ws q hs hq hrun;obtain⟨us',qs',a1,a2,a3,a4,a5,a6,a7⟩:=ih ws (qs.set i q) (by omega) (by rw[hs.len];exact h1) hs.u32 (by simpa using h3) (Jf h4 hq) (fun t ht=>by rw[Qm (by omega)];exact h5 t (by omega)) hs.low;refine⟨us',qs',Za.loop hrun a1,a2,a3,a4,a5,a6,?_⟩;have e:=hs.val;rw[Xd _ _ _ (by omega),h5 i (by omega),Int.sub_zero] at a7;generalize (4294967296:Int)^i=P at *
   grind
  rw[ei];by_cases hd:M.1.getD (i+vs.length) 0-M.2.2-M.2.1<0
  ·obtain⟨S2,hg1⟩:=S2 hd;have hu2:U32 (M.1.set (i+vs.length) ((M.1.getD (i+vs.length) 0-M.2.2-M.2.1) % 4294967296)):=Jf m2 (by omega);have hab:=Zhn (k:=k) (t:=vs.getD (m+1) 0) (t2:=vs.getD m 0) (kq:=kq) (qs:=qs) (s:=s) (j:=i) (g:=g-1) hv hkb (by omega) vs.length 0 (M.1.set (i+vs.length) ((M.1.getD (i+vs.length) 0-M.2.2-M.2.1) % 4294967296)) 0 (by omega) (by rw[List.length_set,m1];exact h1) hu2 (by omega);have hao:=Zgo (j:=i) hv vs.length 0 (M.1.set (i+vs.length) ((M.1.getD (i+vs.length) 0-M.2.2-M.2.1) % 4294967296)) 0 (by omega) (by rw[List.length_set,m1];omega) hu2 (by omega);obtain⟨b1,b2,b3,_,_⟩:=hao;generalize hB:P0 vs i vs.length 0 (M.1.set (i+vs.length) ((M.1.getD (i+vs.length) 0-M.2.2-M.2.1) % 4294967296)) 0=Bb at *
   have eg:u64.wrap (g-1)=g-1:=Wu (by omega);have k1:=Zsx k us vs (vs.length:Nat) (vs.getD (m+1) 0) (vs.getD m 0) kq qs s (i:Nat) M.1 Bb.1 g r M.2.1 M.2.2 Bb.2 (by simp) (by rw[en,Int.toNat_natCast,d1,if_pos hd];rfl) (by rw[en];omega) h1 (by rw[en,en1];omega) (by omega) hl5 hms (by rw[m1];exact h1) (by rw[en,Int.toNat_natCast,d2,eg];exact hab) (by rw[b1,List.length_set,m1];exact h1) (by omega) h3;rw[en,Int.toNat_natCast,eg,Int.toNat_natCast,w32 (n:=g-1) (by omega),ej,w32 (n:=Bb.2) (by omega),H9] at k1;exact fin _ _ S2 (by omega) k1
  ·have k2:=Zsw k us vs (vs.length:Nat) (vs.getD (m+1) 0) (vs.getD m 0) kq qs s (i:Nat) M.1 g r M.2.1 M.2.2 (by simp) (by rw[en,Int.toNat_natCast,d1,if_neg hd];rfl) (by rw[en];omega) h1 (by rw[en,en1];omega) (by omega) hl5 hms (by rw[m1];exact h1) (by omega) h3;rw[en,Int.toNat_natCast,Int.toNat_natCast,d2,w32 (n:=g) q2,ej] at k2;exact fin _ _ (S1 (by omega)) q2 k2
end
def TQB:Jx:=TQA
theorem Jb:Qn Yir TQB:=Zim
end Go.Proofs.Ythdpfjffdipipaa

namespace Go.Proofs.Ythdpfjffdipipaa
open Go.IntKind (i64 u64 u32)
open Go.Ai
set_option maxRecDepth 100000
theorem Zrt (b1 b2 na nb:Bool) (xs ys as1 bs qs rs:List Int) (v w:Int) (n1:Zc Yir 75 [.agg [.bool b1,.sl xs.length (lm xs)]] (.tup [.bool na,.sl as1.length (lm as1)])) (n2:Zc Yir 75 [.agg [.bool b2,.sl ys.length (lm ys)]] (.tup [.bool nb,.sl bs.length (lm bs)])) (n3:Zc Yir 133 [.sl as1.length (lm as1),.sl bs.length (lm bs)] (.tup [.sl qs.length (lm qs),.sl rs.length (lm rs)])) (n4:Zc Yir 113 [.bool (!(na==nb)),.sl qs.length (lm qs)] (Zi v)) (n5:Zc Yir 113 [.bool na,.sl rs.length (lm rs)] (Zi w)):Zc Yir 105 [.agg [.bool b1,.sl xs.length (lm xs)],.agg [.bool b2,.sl ys.length (lm ys)]] (.tup [Zi v,Zi w]):=Zc.go (fn:=Zh7) Jb rfl 400 rfl [.r (.tup [.bool na,.sl as1.length (lm as1)]),.r (.tup [.bool nb,.sl bs.length (lm bs)]),.r (.tup [.sl qs.length (lm qs),.sl rs.length (lm rs)]),.r (Zi v),.r (Zi w)] (ac n1 (ac n2 (ac n3 (ac n4 (ac n5 a0)))))
def P2 (xs:List Int) (v:Int) (n:Int) (i:Int):Zg:=(dds 3 (.val (.int .u64 v)::(dds 3 (.val (.sl xs.length (lm xs))::(.val (.int .i64 n)::(.val (.int .i64 i)::(dds 14 [])))))))
theorem Zsz (xs:List Int) (v:Int) (n:Int) (i:Int)  (c1:(decide (i<n))=true) (n1:0<=i/\i<(xs.length:Int)) (n2:¬ (u64.wrap (i64.wrap (32*i)))<0):Za Yir Zic (P2 xs v n i) .norm (P2 xs (u64.wrap ((BitVec.ofInt (IntKind.bits .u64) v ||| BitVec.ofInt (IntKind.bits .u64) (u64.wrap ((u64.wrap (xs.getD (Int.toNat i) 0))*2^(min (Int.toNat (u64.wrap (i64.wrap (32*i)))) (IntKind.bits .u64))))).toNat)) n (i64.wrap (i+1))):=(Za.go Jb 400 [.b true,.v (.int .u32 (xs.getD (Int.toNat i) 0))] [3,7,8,9] (ac c1 (ac n1 (ac (Qe n1) (ac n2 a0)))))
theorem Zsy (xs:List Int) (v:Int) (n:Int) (i:Int)  (c1:(decide (i<n))=false):Za Yir Zic (P2 xs v n i) (.exit 0) (P2 xs v n i):=(Za.go Jb 400 [.b false] [3,7,8,9] (ac c1 a0))
theorem Zrj (n:Bool) (xs:List Int) (v i m:Int) (hl1:Za Yir (.loop Zic) (P2 xs 0 (xs.length:Int) 0) (.exit 0) (P2 xs v m i)):Zc Yir 132 [.agg [.bool n,.sl xs.length (lm xs)]] (.int .u64 v):=Zc.of_bodyW (fn:=Zhy) (s:=(dds 2 (.val (.int .u64 v)::(dds 21 [])))) (ex := .ret) rfl rfl (Za.asc (Za.csi (Za.seq (Za.go Jb 400 [] [3,7,8,9] a0) (Za.seq (Za.block hl1) (Za.go Jb 400 [] [2] a0))))) (by nofun) rfl
theorem Zrl (n v:Int) (n1:Zc Yir 113 [.bool false,.sl 2 [.int .u32 (u32.wrap n),.int .u32 (u32.wrap (Int.fdiv n (2^(min (Int.toNat 32) (IntKind.bits .u64)))))]] (Zi v)):Zc Yir 130 [.int .u64 n] (Zi v):=Zc.go (fn:=Zh0) Jb rfl 400 rfl [.r (Zi v)] (ac (show ¬ (32:Int)<0 from (by decide)) (ac n1 a0))
def P3 (a:Int) (b:Int):Zg:=(.val (.int .u64 a)::(.val (.int .u64 b)::(dds 10 [])))
theorem Zs0 (a:Int) (b:Int)  (c1:(decide (b>0))=true) (n1:¬ b=0):Za Yir Zid (P3 a b) .norm (P3 b (Int.tmod a b)):=(Za.go Jb 400 [.b true] [0,1] (ac c1 (ac n1 a0)))
theorem Zhp (a:Int) (b:Int)  (c1:(decide (b>0))=false):Za Yir Zid (P3 a b) (.exit 0) (P3 a b):=(Za.go Jb 400 [.b false] [0,1] (ac c1 a0))
theorem Zrk (a b a1 b1:Int) (hl1:Za Yir (.loop Zid) (P3 a b) (.exit 0) (P3 a1 b1)):Zc Yir 131 [.int .u64 a,.int .u64 b] (.int .u64 a1):=Zc.of_bodyW (fn:=Zhz) (s:=(dds 4 (.val (.int .u64 a1)::(dds 7 [])))) (ex := .ret) rfl rfl (Za.seq (Za.go Jb 400 [] [0,1] a0) (Za.seq (Za.block hl1) (Za.go Jb 400 [] [4] a0))) (by nofun) rfl
def Kk (x:Rn) (y:Rn) (z:Rn):Zg:=(dds 4 (.box [.bool z.1,.sl z.2.length (lm z.2)]::(.box [.bool x.1,.sl x.2.length (lm x.2)]::(.box [.bool y.1,.sl y.2.length (lm y.2)]::(dds 35 [])))))
theorem Ztj (x:Rn) (y:Rn) (z:Rn) (ua ub ug g:Int) (c1:(decide ((y.2.length:Int)>0))=true) (c2:(decide ((x.2.length:Int)<=2))=true) (c3:(decide ((y.2.length:Int)<=2))=true) (n1:Zc Yir 132 [Z4 x] (.int .u64 ua)) (n2:Zc Yir 132 [Z4 y] (.int .u64 ub)) (n3:Zc Yir 131 [.int .u64 ua,.int .u64 ub] (.int .u64 ug)) (n4:Zc Yir 130 [.int .u64 ug] (Zi g)):Za Yir E1 (Kk x y z) .ret (Kk x y (cn g)):=(Za.go Jb 400 [.b true,.b true,.b true,.r (.int .u64 ua),.r (.int .u64 ub),.r (.int .u64 ug),.r (Zi g)] [4,5,6] (ac c1 (ac c2 (ac c3 (ac n1 (ac n2 (ac n3 (ac n4 a0))))))))
theorem Zti (x:Rn) (y:Rn) (z:Rn) (q r:Int) (c1:(decide ((y.2.length:Int)>0))=true) (c2:(decide ((x.2.length:Int)<=2))=true) (c3:(decide ((y.2.length:Int)<=2))=false) (n1:Zc Yir 105 [Z4 x,Z4 y] (.tup [Zi q,Zi r])):Za Yir E1 (Kk x y z) .norm (Kk y (cn r) z):=(Za.go Jb 400 [.b true,.b true,.b false,.r (.tup [Zi q,Zi r])] [4,5,6] (ac c1 (ac c2 (ac c3 (ac n1 a0)))))
theorem Zth (x:Rn) (y:Rn) (z:Rn) (q r:Int) (c1:(decide ((y.2.length:Int)>0))=true) (c2:(decide ((x.2.length:Int)<=2))=false) (n1:Zc Yir 105 [Z4 x,Z4 y] (.tup [Zi q,Zi r])):Za Yir E1 (Kk x y z) .norm (Kk y (cn r) z):=(Za.go Jb 400 [.b true,.b false,.b false,.r (.tup [Zi q,Zi r])] [4,5,6] (ac c1 (ac c2 (ac (show false=false from rfl) (ac n1 a0)))))
theorem Zhq (x:Rn) (y:Rn) (z:Rn)  (c1:(decide ((y.2.length:Int)>0))=false):Za Yir E1 (Kk x y z) (.exit 0) (Kk x y z):=(Za.go Jb 400 [.b false] [4,5,6] (ac c1 a0))
theorem Zhd (b1 b2:Bool) (xs ys:List Int) (v w:Int) (x y z:Rn) (n1:Zc Yir 106 [.agg [.bool b1,.sl xs.length (lm xs)]] (Zi v)) (n2:Zc Yir 106 [.agg [.bool b2,.sl ys.length (lm ys)]] (Zi w)) (hl3:Za Yir (.loop E1) (Kk (cn v) (cn w) (false,[])) (.exit 0) (Kk x y z)):Zc Yir 104 [.agg [.bool b1,.sl xs.length (lm xs)],.agg [.bool b2,.sl ys.length (lm ys)]] (Z4 x):=Zc.of_bodyW (fn:=Zc0) (s:=(dds 4 (.box [.bool x.1,.sl x.2.length (lm x.2)]::(dds 37 [])))) (ex := .ret) rfl rfl (Za.asc (Za.seq (Za.go Jb 400 [.r (Zi v),.r (Zi w)] [4,5,6] (ac n1 (ac n2 a0))) (Za.seq (Za.block hl3) (Za.go Jb 400 [] [4] a0)))) (by nofun) rfl
theorem Zhc (b1 b2:Bool) (xs ys:List Int) (v w:Int) (x y z:Rn) (n1:Zc Yir 106 [.agg [.bool b1,.sl xs.length (lm xs)]] (Zi v)) (n2:Zc Yir 106 [.agg [.bool b2,.sl ys.length (lm ys)]] (Zi w)) (hl3:Za Yir (.loop E1) (Kk (cn v) (cn w) (false,[])) .ret (Kk x y z)):Zc Yir 104 [.agg [.bool b1,.sl xs.length (lm xs)],.agg [.bool b2,.sl ys.length (lm ys)]] (Z4 z):=Zc.of_bodyW (fn:=Zc0) (s:=(dds 4 (.box [.bool z.1,.sl z.2.length (lm z.2)]::(.box [.bool x.1,.sl x.2.length (lm x.2)]::(.box [.bool y.1,.sl y.2.length (lm y.2)]::(dds 35 [])))))) (ex := .ret) rfl rfl (Za.asc (Za.seq (Za.go Jb 400 [.r (Zi v),.r (Zi w)] [4,5,6] (ac n1 (ac n2 a0))) (Za.seq_out (Za.block_ret hl3) (by nofun)))) (by nofun) rfl
def TQC:Jx:=TQB
theorem Zil:Qn Yir TQC:=Jb
end Go.Proofs.Ythdpfjffdipipaa

namespace Go.Proofs.Ythdpfjffdipipaa
open Go.IntKind (i64 u64 u32)
open Go.Ai
set_option maxRecDepth 100000
def De (g:Nat->Int) (i r:Nat):List Int:=(List.range i).map g++List.replicate r 0
theorem Pb (g:Nat->Int) (i r:Nat):(De g i r).length=i+r:=by simp [De]
theorem Zfv (g:Nat->Int) (i r:Nat):(De g i (r+1)).set i (g i)=De g (i+1) r:=by
 simp only[De,List.range_succ,List.map_append,List.map_cons,List.map_nil];rw[List.set_append_right _ _ (by simp)];simp[List.replicate_succ]
def Vi (us:List Int) (s:Nat) (i:Nat):Int:=us.getD (i+1) 0 % 2^s*2^(32-s)+us.getD i 0 / 2^s
theorem Mc {us:List Int} (hu:U32 us) {s:Nat} (hs:s<32) (i:Nat):(0<=us.getD i 0 / 2^s/\us.getD i 0 / 2^s<2^(32-s))/\0<=us.getD (i+1) 0 % 2^s/\us.getD (i+1) 0 % 2^s*2^(32-s)<4294967296/\(0<=Vi us s i/\Vi us s i<4294967296):=by
 have h0:=Zx hu i;have h1:=Zx hu (i+1);have hp:=Qc s;have hp2:=Qc (32-s);have e:=Zoy (show s<=32 by omega);have a1:=Int.emod_nonneg (us.getD (i+1) 0) (show (2:Int)^s ≠ 0 by omega);have a2:=Int.emod_lt_of_pos (us.getD (i+1) 0) hp;have b0:0<=us.getD i 0 / 2^s:=Int.ediv_nonneg h0.1 (by omega);have b1:us.getD i 0 / 2^s<2^(32-s):=Int.ediv_lt_of_lt_mul hp (by rw[<- e];exact h0.2);unfold Vi;generalize us.getD (i+1) 0 % 2^s=x at *
 generalize us.getD i 0 / 2^s=y at *
 have c1:=Int.mul_le_mul_of_nonneg_right (show x+1<=2^s by omega) (show (0:Int)<=2^(32-s) by omega);rw[Int.add_mul,Int.one_mul,Int.mul_comm (2^s),<- e] at c1;have c2:=Int.mul_nonneg a1 (show (0:Int)<=2^(32-s) by omega);omega
theorem Zdv {us:List Int} (s:Nat) (hs:s<32):∀ n,n<=us.length->2^s*Zn ((List.range n).map (Vi us s))=Zn (us.take n)-us.getD 0 0 % 2^s+4294967296^n*(us.getD n 0 % 2^s):=by
 intro n;induction n with
 | zero =>
  intro _;simp only[List.range_zero,List.map_nil,List.take_zero,Zn,Int.pow_zero,Int.mul_zero,Int.one_mul];generalize us.getD 0 0 % 2^s=w;omega
 | succ n ih =>
  intro hn;have e:=Zoy (show s<=32 by omega);rw[List.range_succ,List.map_append,List.map_cons,List.map_nil,Uw,List.length_map,List.length_range,Int.mul_add,ih (by omega),Jt us n (by omega),Int.pow_succ];have e2:Zn [Vi us s n]=Vi us s n:=by simp[Zn]
  rw[e2];unfold Vi;have e3:=Int.mul_ediv_add_emod (us.getD n 0) (2^s);generalize us.getD (n+1) 0 % 2^s=x at *
  generalize us.getD n 0 / 2^s=y at *
  generalize us.getD n 0 % 2^s=z at *
  generalize us.getD 0 0 % 2^s=w at *
  generalize us.getD n 0=u at *
  generalize Zn (us.take n)=V at *
  generalize (4294967296:Int)^n=P at *
  rw[e];generalize (2:Int)^(32-s)=T at *
  generalize (2:Int)^s=S at *
  rw[<- e3];grind
theorem Zhk {us:List Int} {k n kq:Nat} {qs:List Int} {s:Nat} (hu:U32 us) (hl:us.length=k) (hn:n<k) (hk:k<=1048577) (hs:s<32) :
  Za Yir (.loop Em) (K9 k us (n:Nat) kq qs n (List.replicate n 0) (s:Nat) 0) (.exit 8) (K9 k us (n:Nat) kq qs n ((List.range n).map (Vi us s)) (s:Nat) (n:Nat)):=by
 have h:=Za.up (prog:=Yir) (c:=Em) (ex := .exit 8) (fin:=K9 k us (n:Nat) kq qs n ((List.range n).map (Vi us s)) (s:Nat) (n:Nat))
  (fun i=>K9 k us (n:Nat) kq qs n (De (Vi us s) i (n-i)) (s:Nat) (i:Nat)) n (by nofun) ?_ ?_ 0 (Nat.zero_le _)
 ·simpa [De] using h
 ·intro i hi;obtain⟨r,hr⟩:∃ r,n-i=r+1:=⟨n-i-1,by omega⟩;have e2:n-(i+1)=r:=by omega
  have ei:i64.wrap ((i:Int)+1)=((i+1:Nat):Int):=by rw[w64 (by omega) (by omega)];omega
  have hlen:(De (Vi us s) i (r+1)).length=n:=by rw[Pb];omega
  obtain⟨b1,b2,b3,b4⟩:=Mc hu hs i;have es:u64.wrap (s:Int)=(s:Nat):=Wu (by omega);have em:min (Int.toNat (s:Int)) (IntKind.bits .u32)=s:=by rw[Int.toNat_natCast];show min s 32=s;omega
  have hp:=Qc s;rw[hr,e2,<- Zfv];have hget:∀ v:Int,((De (Vi us s) i (r+1)).set i v).getD i 0=v:=fun v=>by simp[List.getD_eq_getElem?_getD,show i<(De (Vi us s) i (r+1)).length by omega]
  have efd:Int.fdiv (us.getD i 0) (2^s)=us.getD i 0 / 2^s:=Int.fdiv_eq_ediv_of_nonneg _ (by omega);by_cases h0:s=0
  ·subst h0;have k2:=Zm2 k us (n:Nat) kq qs n (De (Vi us 0) i (r+1)) ((0:Nat):Int) (i:Nat) (by simp;omega) (by simp) (by omega) hl (by rw[es];omega) (by omega) hlen;rw[ei,Int.toNat_natCast,es,em,efd] at k2;have e5:Vi us 0 i=us.getD i 0 / 2^0:=by simp[Vi,Int.emod_one]
   rw[e5];exact k2
  ·have e32:u64.wrap (i64.wrap (32-(s:Int)))=((32-s:Nat):Int):=by rw[w64 (by omega) (by omega),Wu (by omega)];omega
   have em2:min (Int.toNat ((32-s:Nat):Int)) (IntKind.bits .u32)=32-s:=by rw[Int.toNat_natCast];show min (32-s) 32=32-s;omega
   have k1:=Zm3 k us (n:Nat) kq qs n (De (Vi us s) i (r+1)) (s:Int) (i:Nat) (by simp;omega) (by simp;omega) (by omega) hl (by rw[es];omega) (by omega) hlen (by simpa using hlen) (by rw[ei];omega) (by rw[e32];omega);rw[ei,Int.toNat_natCast,Int.toNat_natCast,es,em,e32,em2,efd,hget,List.set_set,H9 (us.getD (i+1) 0*2^(32-s))] at k1;have e6:us.getD (i+1) 0*2^(32-s) % 4294967296=us.getD (i+1) 0 % 2^s*2^(32-s):=by
    rw[Zoy (show s<=32 by omega),Int.mul_comm (us.getD (i+1) 0),Int.mul_emod_mul_of_pos _ _ (Qc (32-s)),Int.mul_comm]
   rw[e6,or32 b2 b3 (by omega) b1] at k1;exact k1
 ·have k3:=Zm1 k us (n:Nat) kq qs n ((List.range n).map (Vi us s)) (s:Nat) (n:Nat) (by simp);simpa [De] using k3
theorem Br {g:Nat->Int} {n:Nat} (h:∀ i,0<=g i/\g i<4294967296):U32 ((List.range n).map g):=fun x hx=>by
 obtain⟨i,_,rfl⟩:=List.mem_map.1 hx;exact h i
theorem           Lu {xs ys : List Int} (hx :    Hg xs) (hy :    Hg ys) (hy0 : ys ≠ []) (h1 : xs.length < 1048576) (h2 : ys.length < 1048576) : ∃ qs rs, U32 qs /\ U32 rs /\ (qs : List Int).length <= 1048576 /\ (rs : List Int).length <= 1048576 /\   Zn qs =   Zn xs /   Zn ys /\   Zn rs =   Zn xs %   Zn ys /\
    Zc      Yir 133 [.sl xs.length (lm xs), .sl ys.length (lm ys)] (.tup [.sl qs.length (lm qs), .sl rs.length (lm rs)]) := by
  have hyl := List.length_pos_iff.2 hy0
  have hcmp :=           V6 hx hy (by omega)
  have hx0 :=          Z0 hx.1
  have hyp :=        K6 hy hy0
  by_cases hlt :   Zn xs <   Zn ys
  · refine ⟨[], xs, fun x h => (nomatch h), hx.1, by simp, by omega, ?_, ?_, ?_⟩
    · rw [Int.ediv_eq_zero_of_lt hx0 hlt]; rfl
    · rw [Int.emod_eq_of_lt hx0 hlt]
    · exact          Zgw xs ys _ (by unfold   U6; rw [if_pos hlt]; rfl) (   Zag xs) (by omega) hcmp
  have hcm : decide (  U6 (  Zn xs) (  Zn ys) < 0) = false := by unfold   U6; rw [if_neg hlt]; split <;> rfl
  by_cases hone : ys.length = 1
  · obtain ⟨y, rfl⟩ := List.length_eq_one_iff.1 hone
    have e1 :   Zn [y] = y := by simp [  Zn]
    rw [e1] at hyp
    have hyb := hy.1 y (by simp)
    obtain ⟨qs, r, q1, q2, q3, q4, q5⟩ :=           Ls hx.1 (d := y) ⟨hyp, hyb.2⟩ (by omega)
    have e2 :   Zn [r] = r := by simp [  Zn]
    have hd := (Int.ediv_emod_unique hyp (a :=   Zn xs) (r := r) (q :=   Zn qs)).2 ⟨by omega, q3.1, q3.2⟩
    refine ⟨qs, [r], q2, fun x h => by rw [List.mem_singleton.1 h]; omega, by omega, by simp, by rw [e1]; exact hd.1.symm, by rw [e1, e2]; exact hd.2.symm, ?_⟩
    exact          Zgv xs [y] qs _ r hcm (by rfl) hcmp (by simp) q5
  · obtain ⟨m, hm⟩ : ∃ m, ys.length = m + 2 := ⟨ys.length - 2, by omega⟩
    have hxl : ys.length <= xs.length := by
      rcases Nat.lt_or_ge xs.length ys.length with g | g
      · exact absurd (      Bm hx hy g) hlt
      · exact g
    -- the first limb of y
    have hyt : 0 < ys.getD (m + 1) 0 /\ ys.getD (m + 1) 0 < 4294967296 := by
      have a :=       Zx hy.1 (m + 1)
      rcases hy.2 with g | g
      · exact absurd g hy0
      · rw [show ys.length - 1 = m + 1 by omega] at g; omega
    obtain ⟨s, hs, s1, s2, hlz⟩ := lz_run hyt
    obtain ⟨us, u1, u2, u3, hus⟩ :=          B4 hx.1 hs h1
    obtain ⟨ws, w1, w2, w3, hws⟩ :=          B4 hy.1 hs h2
    have hp :=       Qc s
    -- y between powers
    have ysplit :=        J1 ys (j := m + 1) (by omega)
    have yd :=       Jd ys (m + 1)
    rw [      X6 (xs := ys) (i := m + 1 + 1) (by omega), Int.mul_zero, Int.add_zero] at yd
    rw [yd] at ysplit
    have ylo :=      Vv hy.1 (m + 1)
    have ylo0 :=          Z0 (      Xe hy.1 (m + 1))
    have hP :=        Qu (m + 1)
    have hV1 : 2147483648 * 4294967296 ^ (m + 1) <=   Zn ws := by
      rw [w3, ysplit]
      have a := Int.mul_le_mul_of_nonneg_right s1 (show (0 : Int) <= 4294967296 ^ (m + 1) by omega)
      have b := Int.mul_nonneg (show (0 : Int) <= 2 ^ s by omega) ylo0
      have e : 2 ^ s * (  Zn (List.take (m + 1) ys) + 4294967296 ^ (m + 1) * ys.getD (m + 1) 0) = 2 ^ s *   Zn (List.take (m + 1) ys) + ys.getD (m + 1) 0 * 2 ^ s * 4294967296 ^ (m + 1) := by grind
      omega
    have hV2 :   Zn ws < 4294967296 ^ (m + 2) := by
      have e9 : (4294967296 : Int) ^ (m + 2) = 4294967296 ^ (m + 1) * 4294967296 := Int.pow_succ _ _
      rw [w3, ysplit]
      have e0 :=  Zoy (show s <= 32 by omega)
      have a1 : ys.getD (m + 1) 0 + 1 <= 2 ^ (32 - s) := by
        rw [e0] at s2
        have := Int.lt_of_mul_lt_mul_right s2 (by omega)
        omega
      have a2 := Int.mul_le_mul_of_nonneg_right a1 (show (0 : Int) <= 2 ^ s * 4294967296 ^ (m + 1) by have := Int.mul_pos hp hP; omega)
      have a3 := Int.mul_lt_mul_of_pos_left ylo hp
      have e1 : (ys.getD (m + 1) 0 + 1) * (2 ^ s * 4294967296 ^ (m + 1)) = 2 ^ s * (4294967296 ^ (m + 1) * ys.getD (m + 1) 0) + 2 ^ s * 4294967296 ^ (m + 1) := by grind
      have e2 : (2 : Int) ^ (32 - s) * (2 ^ s * 4294967296 ^ (m + 1)) = 4294967296 ^ (m + 1) * 4294967296 := by rw [<- Int.mul_assoc, <- e0, Int.mul_comm]
      rw [Int.mul_add]
      omega
    have hdz :=         Hq w2 (n := m + 2) (V := 4294967296 ^ (m + 2)) (Int.le_refl _) hV2
    have hvs :   Zn (ws.take (m + 2)) =   Zn ws := by
      have :=        J1 ws (j := m + 2) (by omega)
      rw [hdz, Int.mul_zero, Int.add_zero] at this
      exact this.symm
    have hvl : (ws.take (m + 2)).length = m + 2 := by simp; omega
    have hvu :=       Xe w2 (m + 2)
    generalize hvv : ws.take (m + 2) = vs at *
    have hvtop : 2147483648 <= vs.getD (m + 1) 0 := by
      have a :=        J1 vs (j := m + 1) (by omega)
      have b :=       Jd vs (m + 1)
      rw [      X6 (xs := vs) (i := m + 1 + 1) (by omega), Int.mul_zero, Int.add_zero] at b
      rw [b] at a
      have c :=      Vv hvu (m + 1)
      apply Int.not_lt.1
      intro h
      have := Int.mul_le_mul_of_nonneg_left (show vs.getD (m + 1) 0 + 1 <= 2147483648 by omega) (show (0 : Int) <= 4294967296 ^ (m + 1) by omega)
      rw [Int.mul_add, Int.mul_one, Int.mul_comm _ 2147483648] at this
      omega
    have hini :   Zn (us.drop (xs.length - ys.length + 1)) <   Zn vs := by
      have a :=        J1 us (j := xs.length - ys.length + 1) (by omega)
      have b :=          Z0 (      Xe u2 (xs.length - ys.length + 1))
      have c :=      Vg hx.1
      have d := Int.mul_lt_mul_of_pos_left c hp
      have e : (4294967296 : Int) ^ xs.length = 4294967296 ^ (xs.length - ys.length + 1) * 4294967296 ^ (m + 1) := by rw [<- Int.pow_add]; congr 1; omega
      have hp2 : (2 : Int) ^ s <= 2147483648 := by
        have :=      Wz (show s <= 31 by omega); rwa [show (2 : Int) ^ 31 = 2147483648 by decide] at this
      have hQ :=        Qu (xs.length - ys.length + 1)
      rw [hvs]
      apply Int.lt_of_lt_of_le (b := 2 ^ s * 4294967296 ^ (m + 1))
      · apply Int.lt_of_mul_lt_mul_left (a := 4294967296 ^ (xs.length - ys.length + 1)) _ (by omega)
        have e2 : (4294967296 : Int) ^ (xs.length - ys.length + 1) * (2 ^ s * 4294967296 ^ (m + 1)) = 2 ^ s * 4294967296 ^ xs.length := by rw [e]; grind
        omega
      · have := Int.mul_le_mul_of_nonneg_right hp2 (show (0 : Int) <= 4294967296 ^ (m + 1) by omega)
        omega
    obtain ⟨us', qs, l1, l2, l3, l4, l5, l6, l7⟩ :=         Zmv (k := xs.length + 1) (kq := xs.length - ys.length + 1) (s := (s : Nat)) hvu hvl hvtop (by omega) (by omega) (xs.length - ys.length + 1) us (List.replicate (xs.length - ys.length + 1) 0) (Nat.le_refl _) u1 u2 (by simp) (       X2 _) (fun t _ =>         J8 _ _) hini
    have l8 :=          Zhk (us := us') (k := xs.length + 1) (n := m + 2) (kq := xs.length - ys.length + 1) (qs := qs) l3 l2 (by omega) (by omega) hs
    rw [        Ub, Int.sub_zero, u3, hvs, w3] at l7
    rw [hvs] at l6
    -- the remainder
    have hR :   Zn us' = 2 ^ s * (  Zn xs -   Zn ys *   Zn qs) := by rw [Int.mul_sub]; have : 2 ^ s *   Zn ys *   Zn qs = 2 ^ s * (  Zn ys *   Zn qs) := by grind
                                                                     omega
    have us0 :=          Z0 l3
    have hR0 : 0 <=   Zn xs -   Zn ys *   Zn qs := by
      apply Int.not_lt.1
      intro h
      have := Int.mul_le_mul_of_nonneg_left (show   Zn xs -   Zn ys *   Zn qs <= -1 by omega) (show (0 : Int) <= 2 ^ s by omega)
      omega
    have hR1 :   Zn xs -   Zn ys *   Zn qs <   Zn ys := by
      rw [hR, w3] at l6
      exact Int.lt_of_mul_lt_mul_left l6 (by omega)
    have hrs :   Zn ((List.range (m + 2)).map (  Vi us' s)) =   Zn xs -   Zn ys *   Zn qs := by
      have a :=     Zdv (us := us') s hs (m + 2) (by omega)
      have b : us'.getD 0 0 % 2 ^ s = 0 := by
        have c :=       Jd us' 0
        rw [List.drop_zero, Nat.zero_add, hR] at c
        have e0 :=  Zoy (show s <= 32 by omega)
        have : us'.getD 0 0 = 2 ^ s * (  Zn xs -   Zn ys *   Zn qs - 2 ^ (32 - s) *   Zn (us'.drop 1)) := by rw [Int.mul_sub, <- Int.mul_assoc, Int.mul_comm (2 ^ s) (2 ^ (32 - s)), <- e0]; omega
        rw [this]
        exact Int.mul_emod_right _ _
      have dz :=         Hq l3 (n := m + 2) (V :=   Zn ws) (by omega) l6
      have c2 : us'.getD (m + 2) 0 = 0 := by
        have c :=       Jd us' (m + 2)
        rw [dz] at c
        have d1 :=          Z0 (      Xs l3 (m + 2 + 1))
        have d2 :=       Zx l3 (m + 2)
        omega
      have d :=        J1 us' (j := m + 2) (by omega)
      rw [dz, Int.mul_zero, Int.add_zero] at d
      rw [b, c2, <- d, hR, Int.zero_emod, Int.mul_zero, Int.sub_zero, Int.add_zero] at a
      exact Int.eq_of_mul_eq_mul_left (by omega) a
    have hd := (Int.ediv_emod_unique hyp (a :=   Zn xs) (r :=   Zn xs -   Zn ys *   Zn qs) (q :=   Zn qs)).2 ⟨by omega, hR0, hR1⟩
    have e1 : IntKind.i64.wrap (((ys.length : Nat) : Int) - 1) = ((m + 1 : Nat) : Int) := by rw [w64 (by omega) (by omega)]; omega
    have e2 : IntKind.i64.wrap (((ys.length : Nat) : Int) - 2) = ((m : Nat) : Int) := by rw [w64 (by omega) (by omega)]; omega
    have e3 : IntKind.i64.wrap (((xs.length : Nat) : Int) - ((ys.length : Nat) : Int)) = ((xs.length - ys.length : Nat) : Int) := by rw [w64 (by omega) (by omega)]; omega
    have e4 : IntKind.i64.wrap (((xs.length - ys.length : Nat) : Int) + 1) = ((xs.length - ys.length + 1 : Nat) : Int) := by rw [w64 (by omega) (by omega)]; omega
    have hlv : vs.length = ys.length := by omega
    have hvv2 : ws.take ys.length = vs := by rw [hm]; exact hvv
    have v1 :=       Zx hvu (m + 1)
    have v2 :=       Zx hvu m
    refine ⟨qs, (List.range (m + 2)).map (  Vi us' s), l5,        Br (fun i => (     Mc l3 hs i).2.2.2), by omega, by simp; omega, hd.1.symm, by rw [hrs]; exact hd.2.symm, ?_⟩
    have hl11 :    Za    Yir (.loop       Lb) (      Hx us.length us vs (vs.length : Nat) (vs.getD (m + 1) 0) (vs.getD m 0) (xs.length - ys.length + 1) (List.replicate (xs.length - ys.length + 1) 0) (s : Nat) ((xs.length - ys.length : Nat) : Int)) (.exit 0) (      Hx us.length us' vs (vs.length : Nat) (vs.getD (m + 1) 0) (vs.getD m 0) (xs.length - ys.length + 1) qs (s : Nat) (-1)) := by
      rw [u1]
      refine l1.to ?_ rfl
      congr 1
      omega
    have h :=          Zgu xs ys us ws us' vs qs ((List.range (m + 2)).map (  Vi us' s)) _ (s : Nat) (vs.length : Nat) (vs.getD (m + 1) 0) (vs.getD m 0) (-1) us.length (xs.length - ys.length + 1) (m + 2) hcm (by rw [hm, beq_eq_false_iff_ne]; omega) hcmp (by rw [e1]; omega) (by rw [e1, Int.toNat_natCast]; exact hlz) (by omega) (by rw [Int.toNat_natCast]; exact ⟨by omega, by omega, Nat.le_refl _, fun _ => rfl⟩) hus hws (by rw [e3, e4]; omega) (by rw [e1, Int.toNat_natCast]; omega) (by rw [e2, Int.toNat_natCast]; omega)
      (by
        rw [e1, e2, e3, e4, Int.toNat_natCast, Int.toNat_natCast, Int.toNat_natCast, Int.toNat_natCast,       U1,      Zaf, List.drop_zero, Nat.sub_zero, hvv2,   Wu (n := vs.getD (m + 1) 0) (by omega),   Wu (n := vs.getD m 0) (by omega)]
        unfold       Hx at hl11 |-
        rw [hlv] at hl11 |-
        exact hl11)
      (by omega) (by
        rw [hvl, Int.toNat_natCast,       U1, u1]
        exact l8)
    rw [show qs.length = xs.length - ys.length + 1 from l4, show ((List.range (m + 2)).map (  Vi us' s)).length = m + 2 by simp]
    exact h
def TQD:Jx:=TQC
theorem Zik:Qn Yir TQD:=Zil
end Go.Proofs.Ythdpfjffdipipaa

namespace Go.Proofs.Ythdpfjffdipipaa
open Go.IntKind (i64 u64 u32)
open Go.Ai
set_option maxRecDepth 100000
def TDA:Jx:=TBE
theorem Ziq:Qn Yir TDA:=Ur
end Go.Proofs.Ythdpfjffdipipaa

namespace Go.Proofs.Ythdpfjffdipipaa
open Go.IntKind (i64 u64 u32)
open Go.Ai
set_option maxRecDepth 100000
theorem Zrc {p:Int} {s:Nat} (hp:0<=p/\p<4294967296) (hs:s<=31):u32.wrap ((BitVec.ofInt (IntKind.bits .u32) p &&& BitVec.ofInt (IntKind.bits .u32) (2^s-1)).toNat)=p % 2^s:=by
 obtain⟨m,rfl⟩:=Int.eq_ofNat_of_zero_le hp.1;have hb:(IntKind.bits .u32)=32:=rfl;have e1:(BitVec.ofInt 32 (m:Int)).toNat=m:=Vb 32 m (by omega);have h2:2^s<=2^31:=Nat.pow_le_pow_right (by decide) hs;have h3:0<2^s:=Nat.pow_pos (by decide);have ec:((2:Int)^s-1)=((2^s-1:Nat):Int):=by
  have:((2^s:Nat):Int)=(2:Int)^s:=by simp
  omega
 have e2:(BitVec.ofInt 32 ((2^s-1:Nat):Int)).toNat=2^s-1:=Vb 32 (2^s-1) (by omega);rw[hb,BitVec.toNat_and,e1,ec,e2,Nat.and_two_pow_sub_one_eq_mod,H9];have h4:m % 2^s<2^s:=Nat.mod_lt _ h3;have e3:((m % 2^s:Nat):Int)=(m:Int) % 2^s:=by simp
 rw[<- e3];omega
theorem N6 {xs:List Int} (h:U32 xs) {v:Int} (hv:0<=v):(Zn xs+v=0)↔(Zn xs=0/\v=0):=by
 have:=Z0 h;omega
theorem Zdw {x y:Int} (hx:0<=x/\x<4294967296) {s:Nat} (hs:s<32):(y*4294967296+x) / 2^s % 4294967296=y % 2^s*2^(32-s)+x / 2^s:=by
 have e:=Zoy (show s<=32 by omega);have hp:=Qc s;have hp2:=Qc (32-s);have h1:(y*4294967296+x) / 2^s=y*2^(32-s)+x / 2^s:=by
  rw[e,<- Int.mul_assoc,Int.add_comm,Int.add_mul_ediv_right _ _ (by omega),Int.add_comm]
 have b1:x / 2^s<2^(32-s):=Int.ediv_lt_of_lt_mul hp (by rw[<- e];exact hx.2);have b0:0<=x / 2^s:=Int.ediv_nonneg hx.1 (by omega);have m0:=Int.emod_nonneg y (show (2:Int)^s ≠ 0 by omega);have m1:=Int.emod_lt_of_pos y hp;have hy2:=Int.mul_ediv_add_emod y (2^s);rw[h1];have e3:y*2^(32-s)+x / 2^s=(y % 2^s*2^(32-s)+x / 2^s)+4294967296*(y / 2^s):=by
  rw[e];generalize y % 2^s=a at *
  generalize y / 2^s=b at *
  generalize (2:Int)^(32-s)=T at *
  generalize (2:Int)^s=S at *
  generalize x / S=z at *
  rw[<- hy2];grind
 rw[e3,Int.add_mul_emod_self_left];apply Int.emod_eq_of_lt
 ·have:=Int.mul_nonneg m0 (show (0:Int)<=2^(32-s) by omega);omega
 ·have c1:=Int.mul_le_mul_of_nonneg_right (show y % 2^s+1<=2^s by omega) (show (0:Int)<=2^(32-s) by omega);rw[Int.add_mul,Int.one_mul,Int.mul_comm (2^s),<- e] at c1;omega
theorem Zdx {ms:List Int} {s k:Nat} (hs:s<32) (hk:k<=ms.length) :
  Zn ms=4294967296^k*(2^s*Zn ((List.range (ms.length-k)).map (Vi (ms.drop k) s))+ms.getD k 0 % 2^s)+Zn (ms.take k):=by
 have h1:=J1 ms hk;have h2:=Zdv (us:=ms.drop k) s hs (ms.length-k) (by simp);have g0:(ms.drop k).getD 0 0=ms.getD k 0:=by simp[List.getD_eq_getElem?_getD,List.getElem?_drop]
 have g1:(ms.drop k).getD (ms.length-k) 0=0:=Qi (by simp);rw[List.take_of_length_le (by simp),g0,g1,Int.zero_emod,Int.mul_zero,Int.add_zero] at h2;rw[h2,h1];generalize Zn (ms.drop k)=X;generalize Zn (ms.take k)=Y;generalize ms.getD k 0 % 2^s=z;have:X-z+z=X:=by omega
 rw[this];omega
def TDB:Jx:=TDA
theorem Zio:Qn Yir TDB:=Ziq
end Go.Proofs.Ythdpfjffdipipaa

namespace Go.Proofs.Ythdpfjffdipipaa
open Go.IntKind (i64 u64 u32)
open Go.Ai
set_option maxRecDepth 100000
section
variable {k:Nat} {us vs:List Int} {kq:Nat} {qs:List Int} {s:Int} {j m:Nat}
end
section
variable {k:Nat} {vs:List Int} {kq:Nat} {qs:List Int} {s:Int} {j:Nat} {g:Int}
end
def TDC:Jx:=TDB
theorem Zin:Qn Yir TDC:=Zio
end Go.Proofs.Ythdpfjffdipipaa

namespace Go.Proofs.Ythdpfjffdipipaa
open Go.IntKind (i64 u64 u32)
open Go.Ai
set_option maxRecDepth 100000
section
variable {vs:List Int} {m:Nat} {k kq:Nat} {s:Int}
end
def TDD:Jx:=TDC
theorem Zk:Qn Yir TDD:=Zin
end Go.Proofs.Ythdpfjffdipipaa

namespace Go.Proofs.Ythdpfjffdipipaa
open Go.IntKind (i64 u64 u32)
open Go.Ai
set_option maxRecDepth 100000
def Ew (rs:List Rn) (n:Int):Zg:=(.val (.sl rs.length (pc rs))::(dds 2 (.val (.int .i64 n)::(dds 31 []))))
theorem Zsd (rs:List Rn) (n:Int)  (c1:(decide (n>0))=true) (c2:((Wa (Ze (rs.getD (Int.toNat (i64.wrap (n-1))) z0)))==0)=true) (n1:0<=(i64.wrap (n-1))/\(i64.wrap (n-1))<(rs.length:Int)) (n2:Zc Yir 43 [Z4 (rs.getD (Int.toNat (i64.wrap (n-1))) z0)] (.int .i64 (Wa (Ze (rs.getD (Int.toNat (i64.wrap (n-1))) z0))))):Za Yir Zc2 (Ew rs n) .norm (Ew rs (i64.wrap (n-1))):=(Za.go Ur 400 [.b true,.v (Z4 (rs.getD (Int.toNat (i64.wrap (n-1))) z0)),.r (.int .i64 (Wa (Ze (rs.getD (Int.toNat (i64.wrap (n-1))) z0)))),.b true] [0,3] (ac c1 (ac n1 (ac (Jy n1) (ac n2 (ac c2 a0))))))
theorem Zsc (rs:List Rn) (n:Int)  (c1:(decide (n>0))=true) (c2:((Wa (Ze (rs.getD (Int.toNat (i64.wrap (n-1))) z0)))==0)=false) (n1:0<=(i64.wrap (n-1))/\(i64.wrap (n-1))<(rs.length:Int)) (n2:Zc Yir 43 [Z4 (rs.getD (Int.toNat (i64.wrap (n-1))) z0)] (.int .i64 (Wa (Ze (rs.getD (Int.toNat (i64.wrap (n-1))) z0))))):Za Yir Zc2 (Ew rs n) (.exit 0) (Ew rs n):=(Za.go Ur 400 [.b true,.v (Z4 (rs.getD (Int.toNat (i64.wrap (n-1))) z0)),.r (.int .i64 (Wa (Ze (rs.getD (Int.toNat (i64.wrap (n-1))) z0)))),.b false] [0,3] (ac c1 (ac n1 (ac (Jy n1) (ac n2 (ac c2 a0))))))
theorem Zsb (rs:List Rn) (n:Int)  (c1:(decide (n>0))=false):Za Yir Zc2 (Ew rs n) (.exit 0) (Ew rs n):=(Za.go Ur 400 [.b false,.b false] [0,3] (ac c1 (ac (show false=false from rfl) a0)))
def M8 (rs:List Rn) (n:Int) (k:Nat) (cs:List AV) (i:Int):Zg:=(.val (.sl rs.length (pc rs))::(dds 2 (.val (.int .i64 n)::(.own 2 k cs::(.val (.int .i64 i)::(dds 29 []))))))
theorem Zsa (rs:List Rn) (n:Int) (k:Nat) (cs:List AV) (i:Int)  (c1:(decide (i<n))=true) (n1:0<=i/\i<(rs.length:Int)) (n2:k+1<=1048576) (n3:Zc Yir 99 [Z4 (rs.getD (Int.toNat i) z0)] (Zi (Ze (rs.getD (Int.toNat i) z0)))):Za Yir Zh9 (M8 rs n k cs i) .norm (M8 rs n (k+1) (cs++([.bool (decide ((Ze (rs.getD (Int.toNat i) z0))<0)),.sl ((Zb (Int.natAbs (Ze (rs.getD (Int.toNat i) z0)))).length) (lm (Zb (Int.natAbs (Ze (rs.getD (Int.toNat i) z0)))))]:List AV)) (i64.wrap (i+1))):=(Za.go Ur 400 [.b true,.v (Z4 (rs.getD (Int.toNat i) z0)),.r (Zi (Ze (rs.getD (Int.toNat i) z0)))] [0,3,4,5] (ac c1 (ac n1 (ac (Jy n1) (ac n3 (ac (show List.length ([.bool (decide ((Ze (rs.getD (Int.toNat i) z0))<0)),.sl ((Zb (Int.natAbs (Ze (rs.getD (Int.toNat i) z0)))).length) (lm (Zb (Int.natAbs (Ze (rs.getD (Int.toNat i) z0)))))]:List AV)=1*2 from rfl) (ac n2 a0)))))))
theorem Zr9 (rs:List Rn) (n:Int) (k:Nat) (cs:List AV) (i:Int)  (c1:(decide (i<n))=false):Za Yir Zh9 (M8 rs n k cs i) (.exit 2) (M8 rs n k cs i):=(Za.go Ur 400 [.b false] [0,3,4,5] (ac c1 a0))
theorem Yrun64 (rs:List Rn) (n i:Int) (k:Nat) (cs:List AV) (hl1:Za Yir (.loop Zc2) (Ew rs (rs.length:Int)) (.exit 0) (Ew rs n)) (hl2:Za Yir (.loop Zh9) (M8 rs n 0 ([]:List AV) 0) (.exit 2) (M8 rs n k cs i)):Zc Yir 64 [.sl rs.length (pc rs)] (.fresh 2 k cs):=Zc.of_bodyW (fn:=Yi64) (s:=(dds 2 (.own 2 k cs::(dds 32 [])))) (ex := .ret) rfl rfl (Za.asc (Za.seq (Za.go Ur 400 [] [0,3] a0) (Za.seq (Za.block hl1) (Za.csi (Za.seq (Za.go Ur 400 [] [0,3,4,5] a0) (Za.seq (Za.block hl2) (Za.go Ur 400 [] [2] a0))))))) (by nofun) rfl
theorem Zem (rs:List Rn) (r:Rn):pc rs++([.bool r.1,.sl r.2.length (lm r.2)]:List AV)=pc (rs++[r]):=by rw [Ah];rfl
theorem H3 (g:Nat->Rn) (i:Nat):(List.range (i+1)).map g=(List.range i).map g++[g i]:=by rw [List.range_succ,List.map_append];rfl
theorem Zmq {rs:List Rn} (hg:∀ r∈rs,Ji 1048576 r) (hN:rs.length<=1048576):∀ m,m<=rs.length->Za Yir (.loop Zc2) (Ew rs (m:Nat)) (.exit 0) (Ew rs (Zt (Zf rs) m:Nat)):=by
 intro m;induction m with
 | zero=>intro _;exact Za.loop_out (Zsb rs ((0:Nat):Int) (by simp)) (by nofun)
 | succ m ih =>
  intro hm;have e1:i64.wrap (((m+1:Nat):Int)-1)=(m:Int):=by rw[w64 (by omega) (by omega)];omega
  obtain⟨g1,g2⟩:=Qh hg m;have hs:=Zdu (neg:=(rs.getD m z0).1) g1 g2;simp only[Zt];rw[Je];by_cases h0:Ze (rs.getD m z0)=0
  ·rw[if_pos h0];have k:=Zsd rs ((m+1:Nat):Int) (by simp) (by rw[e1,Int.toNat_natCast,h0];rfl) (by rw[e1];omega) (by simp only[e1,Int.toNat_natCast];exact hs);rw[e1] at k;exact Za.loop k (ih (by omega))
  ·rw[if_neg h0];exact Za.loop_out (Zsc rs ((m+1:Nat):Int) (by simp) (by rw[e1,Int.toNat_natCast,beq_eq_false_iff_ne];unfold Wa; (repeat' split) <;> omega) (by rw[e1];omega) (by simp only[e1,Int.toNat_natCast];exact hs)) (by nofun)
theorem Zmp {rs:List Rn} (hg:∀ r∈rs,Ji 1048576 r) (hN:rs.length<=1048576) (n:Nat) (hn:n<=rs.length) :
  Za Yir (.loop Zh9) (M8 rs (n:Nat) 0 [] 0) (.exit 2) (M8 rs (n:Nat) n (pc ((List.range n).map fun j=>cn (Ze (rs.getD j z0)))) (n:Nat)):=by
 refine Za.up (fun i=>M8 rs (n:Nat) i (pc ((List.range i).map fun j=>cn (Ze (rs.getD j z0)))) (i:Nat)) n (by nofun) ?_ ?_ 0 (Nat.zero_le _)
 ·intro i hi;have ei:i64.wrap ((i:Int)+1)=((i+1:Nat):Int):=by rw[w64 (by omega) (by omega)];omega
  obtain⟨g1,g2⟩:=Qh hg i;have k:=Zsa rs (n:Nat) i (pc ((List.range i).map fun j=>cn (Ze (rs.getD j z0)))) (i:Nat) (by simp;omega) (by omega) (by omega) (by simp only[Int.toNat_natCast];exact Zdt g1 g2);refine k.to rfl ?_;simp only[Int.toNat_natCast,ei];rw[H3,<- Zem];rfl
 ·exact Zr9 rs (n:Nat) n _ (n:Nat) (by simp)
theorem Zd8 {rs:List Rn} (hg:∀ r∈rs,Ji 1048576 r) (hN:rs.length<=1048576):Zc Yir 64 [.sl rs.length (pc rs)] (.fresh 2 (Zj (Zf rs)).length (pk (Zj (Zf rs)))):=by
 have hle:=Vh (Zf rs) rs.length;have hlen:(Zj (Zf rs)).length=Zt (Zf rs) rs.length:=by rw[Xm,Zu]
 have h:=Yrun64 rs _ _ _ _ (Zmq hg hN rs.length (Nat.le_refl _)) (Zmp hg hN _ hle);have e3:(List.range (Zt (Zf rs) rs.length)).map (fun j=>cn (Ze (rs.getD j z0)))=(Zj (Zf rs)).map cn:=by
  rw[<- Mf,hlen];apply List.map_congr_left;intro i _;rw[Jh,Je]
 rw[e3,<- hlen] at h;exact h
theorem Zfj (e:Nat):Jo (e / 32+1) ((2:Int)^e):=by
 unfold Jo;have h1:((2:Int)^e).natAbs=2^e:=by rw[Int.natAbs_pow];rfl
 have h2:(4294967296:Nat)^(e / 32+1)=2^(32*(e / 32+1)):=by rw[Nat.pow_mul]
 rw[h1,h2];exact Nat.pow_lt_pow_right (by decide) (by omega)
end Go.Proofs.Ythdpfjffdipipaa
