/- Texts of the proof of SturmDyadics, packed by pack.py: part 9 of 15. -/
import Derived.Test.YthnnfemologhfaaSdy8
namespace Go.Ai
open Go.IntKind (i64 u64 u32)
abbrev Rn:=Bool × List Int
def rval (r:Rn):Int:=rv r.1 r.2
def cn (n:Int):Rn:=(decide (n<0),limbs n.natAbs)
def z0:Rn:=(false,[])
def Good (K:Nat) (r:Rn):Prop:=U32 r.2∧r.2.length≤K
def rawAV (r:Rn):AV := .agg [.bool r.1, .sl r.2.length (lm r.2)]
theorem rval_cn (n:Int):rval (cn n)=n:=rv_big n
theorem good_cn {k:Nat} {n:Int} (h:Fits k n):Good k (cn n):=⟨big_u32 _,h.len⟩
theorem Good.mono {j k:Nat} {r:Rn} (h:Good j r) (hk:j≤k):Good k r:=⟨h.1,Nat.le_trans h.2 hk⟩
theorem Good.fits {k:Nat} {r:Rn} (h:Good k r):Fits k (rval r):=(rv_fits h.1).mono h.2
theorem topN_ext {xs ys:List Int} (h:∀ i,xs.getD i 0=ys.getD i 0):∀ n,topN xs n=topN ys n:=by
 intro n
 induction n with
 | zero=>rfl
 | succ n ih=>simp only [topN,h n,ih]
theorem topN_more (xs:List Int):∀ d,topN xs (xs.length+d)=topN xs xs.length:=by
 intro d
 induction d with
 | zero=>rfl
 | succ d ih =>
  rw [← Nat.add_assoc]
  simp only [topN]
  rw [getD_end (by omega),if_pos rfl,ih]
theorem getD_trim (xs:List Int) (i:Nat):(trimL xs).getD i 0=xs.getD i 0:=by
 unfold trimL
 rcases Nat.lt_or_ge i (topN xs xs.length) with h | h
 ·simp only [List.getD_eq_getElem?_getD,List.getElem?_take,if_pos h]
 ·have e:(xs.take (topN xs xs.length)).getD i 0=0:=getD_end (by simp;omega)
  rw [e]
  rcases Nat.lt_or_ge i xs.length with h2 | h2
  ·exact (topN_zero xs xs.length i h h2).symm
  ·exact (getD_end h2).symm
theorem list_ext {xs ys:List Int} (hl:xs.length=ys.length) (h:∀ i,xs.getD i 0=ys.getD i 0):xs=ys:=by
 apply List.ext_getElem hl
 intro i h1 h2
 have:=h i
 simpa [List.getD_eq_getElem?_getD,List.getElem?_eq_getElem h1,List.getElem?_eq_getElem h2] using this
theorem trim_ext {xs ys:List Int} (h:∀ i,xs.getD i 0=ys.getD i 0):trimL xs=trimL ys:=by
 have hlen:(trimL xs).length=(trimL ys).length:=by
  have h1:∀ zs:List Int,(trimL zs).length=topN zs zs.length:=fun zs=>by have:=topN_le zs zs.length;simp [trimL];omega
  rw [h1,h1]
  rcases Nat.le_total xs.length ys.length with g | g
  ·have:=topN_more xs (ys.length-xs.length)
   rw [show xs.length+(ys.length-xs.length)=ys.length by omega] at this
   rw [← this,topN_ext h]
  ·have:=topN_more ys (xs.length-ys.length)
   rw [show ys.length+(xs.length-ys.length)=xs.length by omega] at this
   rw [← this,topN_ext h]
 refine list_ext hlen fun i => ?_
 rw [getD_trim,getD_trim,h i]
theorem trim_length (xs:List Int):(trimL xs).length=topN xs xs.length:=by have:=topN_le xs xs.length;simp [trimL];omega
theorem trim_trim (xs:List Int):trimL (trimL xs)=trimL xs:=trim_ext (getD_trim xs)
def peval:List Int→Int→Int
 | [],_=>0
 | p::ps,x=>p+x*peval ps x
theorem peval_zero {xs:List Int} (h:∀ i,xs.getD i 0=0) (x:Int):peval xs x=0:=by
 induction xs with
 | nil=>rfl
 | cons p ps ih =>
  have h0:=h 0
  simp at h0
  have:=ih (fun i=>by simpa using h (i+1))
  simp [peval,h0,this]
theorem peval_ext:∀ {xs ys:List Int},(∀ i,xs.getD i 0=ys.getD i 0)→∀ x,peval xs x=peval ys x
 | [],ys,h,x=>(peval_zero (fun i=>(h i).symm) x).symm
 | p::ps,[],h,x=>peval_zero (fun i=>h i) x
 | p::ps,q::qs,h,x=>by
  have h0:=h 0
  simp at h0
  simp only [peval,h0]
  rw [peval_ext (fun i=>by simpa using h (i+1)) x]
theorem peval_trim (xs:List Int) (x:Int):peval (trimL xs) x=peval xs x:=peval_ext (getD_trim xs) x
theorem fits_zero (k:Nat):Fits k 0:=by unfold Fits;simp;exact Nat.pow_pos (by decide)
def padd (ps qs:List Int):List Int:=trimL ((List.range (max ps.length qs.length)).map fun i=>ps.getD i 0+qs.getD i 0)
def pneg (ps:List Int):List Int:=ps.map fun x => -x
theorem getD_padd (ps qs:List Int) (i:Nat):(padd ps qs).getD i 0=ps.getD i 0+qs.getD i 0:=by
 unfold padd
 rw [getD_trim,List.getD_eq_getElem?_getD]
 by_cases h:i<max ps.length qs.length
 ·simp [h]
 ·have h1:ps.length≤i:=by omega
  have h2:qs.length≤i:=by omega
  rw [getD_end h1,getD_end h2]
  simp [h]
theorem getD_pneg (ps:List Int) (i:Nat):(pneg ps).getD i 0 = -(ps.getD i 0):=by
 unfold pneg
 simp only [List.getD_eq_getElem?_getD,List.getElem?_map]
 cases ps[i]? <;> simp
theorem padd_trim (ps qs:List Int):trimL (padd ps qs)=padd ps qs:=trim_trim _
theorem peval_succ (xs:List Int) (x:Int):peval xs x=xs.getD 0 0+x*peval (xs.drop 1) x:=by
 cases xs <;> simp [peval]
theorem peval_padd_aux:∀ (n:Nat) (us bs cs:List Int),us.length≤n→bs.length≤n→cs.length≤n→(∀ i,cs.getD i 0=us.getD i 0+bs.getD i 0)→∀ x,peval cs x=peval us x+peval bs x:=by
 intro n
 induction n with
 | zero =>
  intro us bs cs h1 h2 h3 _ x
  rw [List.eq_nil_of_length_eq_zero (by omega:us.length=0),List.eq_nil_of_length_eq_zero (by omega:bs.length=0),List.eq_nil_of_length_eq_zero (by omega:cs.length=0)]
  rfl
 | succ n ih =>
  intro us bs cs h1 h2 h3 h x
  rw [peval_succ us,peval_succ bs,peval_succ cs,h 0,ih (us.drop 1) (bs.drop 1) (cs.drop 1) (by simp;omega) (by simp;omega) (by simp;omega) (fun i=>by
   have:=h (i+1)
   simpa [List.getD_eq_getElem?_getD,Nat.add_comm] using this) x]
  rw [Int.mul_add]
  omega
theorem peval_padd (ps qs:List Int) (x:Int):peval (padd ps qs) x=peval ps x+peval qs x :=
 peval_padd_aux (max (max ps.length qs.length) (padd ps qs).length) ps qs _ (by omega) (by omega) (by omega) (getD_padd ps qs) x
theorem peval_pneg (ps:List Int) (x:Int):peval (pneg ps) x = -peval ps x:=by
 induction ps with
 | nil=>rfl
 | cons p ps ih =>
  have:pneg (p::ps) = -p::pneg ps:=rfl
  rw [this]
  simp only [peval,ih]
  rw [Int.mul_neg]
  omega
def bR (r : Rn) : Reg := .box [.bool r.1, .sl r.2.length (lm r.2)]
def bN (n : Int) : Reg := .box [.bool (decide (n < 0)), .sl ((limbs (Int.natAbs n)).length) (lm (limbs (Int.natAbs n)))]
end Go.Ai

namespace Go.Ai
open Go.IntKind (i64 u64 u32)
section
variable {prog:Nat→Option IFunc}
theorem RunsW.block_out {id:Nat} {c:ICode} {s t:State} {i:Nat} (h:RunsW prog c s (.exit i) t) (hi:i ≠ id):RunsW prog (.block id c) s (.exit i) t:=by
 obtain ⟨u,k1,k2⟩:=h
 exact ⟨u,RunsC.block_out k1 hi,k2⟩
theorem RunsW.up {c:ICode} {ex:Ex} {fin:State} (st:Nat→State) (n:Nat) (hex:ex ≠ .norm) (step:∀ i,i<n→RunsW prog c (st i) .norm (st (i+1))) (out:RunsW prog c (st n) ex fin):∀ i,i≤n→RunsW prog (.loop c) (st i) ex fin:=by
 have key:∀ r i,i+r=n→RunsW prog (.loop c) (st i) ex fin:=by
  intro r
  induction r with
  | zero =>
   intro i hi
   have:i=n:=by omega
   subst this
   exact RunsW.loop_out out hex
  | succ r ih =>
   intro i hi
   exact RunsW.loop (step i (by omega)) (ih (i+1) (by omega))
 intro i hi
 exact key (n-i) i (by omega)
theorem RunsW.to {c:ICode} {ex:Ex} {s t s' t':State} (h:RunsW prog c s ex t) (hs:s=s') (ht:t=t'):RunsW prog c s' ex t':=hs ▸ ht ▸ h
end
theorem toNat_lt {X:Int} {n:Nat} (h:0≤X∧X<(n:Int)):Int.toNat X<n:=by omega
theorem take_limI {xs:List Int} {X:Int} (h:0≤X∧X<(xs.length:Int)):takeA (List.drop (Int.toNat X*1) (lm xs)) 0 1 true=some (.int .u32 (xs.getD (Int.toNat X) 0)):=take_lim (toNat_lt h)
theorem own_limI {xs:List Int} {n:Nat} (hl:xs.length=n) {X:Int} (h:0≤X∧X<(n:Int)):takeA (lm xs) (Int.toNat X*1) 1 true=some (.int .u32 (xs.getD (Int.toNat X) 0)):=own_lim (hl ▸ toNat_lt h)
theorem lay_limI {xs:List Int} {n:Nat} (hl:xs.length=n) {X:Int} (h:0≤X∧X<(n:Int)) {v:Int}:layA (lm xs) (Int.toNat X*1) [.int .u32 v]=some (lm (xs.set (Int.toNat X) v)):=lay_lim (hl ▸ toNat_lt h)
end Go.Ai

namespace Go.Ai
open Go.IntKind (i64 u64 u32)
theorem pzero:∀ (d:List Int) (b:Int),(∀ x,b≤x→peval d x=0)→∀ i,d.getD i 0=0
 | [],_,_,i=>by simp
 | c::d,b,h,i=>by
  have hc:c=0:=by
   have h1:=h (max b (c.natAbs+1)) (by omega)
   simp only [peval] at h1
   have h2:(max b ((c.natAbs:Int)+1))∣c:=⟨-(peval d (max b ((c.natAbs:Int)+1))),by rw [Int.mul_neg];omega⟩
   rcases Int.lt_trichotomy c 0 with g | g | g
   ·have:=Int.le_of_dvd (a:=max b ((c.natAbs:Int)+1)) (b := -c) (by omega) ((Int.dvd_neg).2 h2)
    omega
   ·exact g
   ·have:=Int.le_of_dvd (a:=max b ((c.natAbs:Int)+1)) (b:=c) (by omega) h2
    omega
  cases i with
  | zero=>simpa using hc
  | succ i =>
   have:=pzero d (max b 1) (fun x hx=>by
    have h1:=h x (by omega)
    simp only [peval,hc,Int.zero_add] at h1
    rcases Int.mul_eq_zero.1 h1 with g | g
    ·omega
    ·exact g) i
   simpa using this
theorem peval_inj' {p q:List Int} (h:∀ x,peval p x=peval q x) (i:Nat):p.getD i 0=q.getD i 0:=by
 have:=pzero (padd p (pneg q)) 0 (fun x _=>by rw [peval_padd,peval_pneg,h x];omega) i
 rw [getD_padd,getD_pneg] at this
 omega
theorem peval_inj {p q:List Int} (h:∀ x,peval p x=peval q x):trimL p=trimL q:=trim_ext (peval_inj' h)
def psub (p q:List Int):List Int:=padd p (pneg q)
theorem peval_psub (p q:List Int) (x:Int):peval (psub p q) x=peval p x-peval q x:=by rw [psub,peval_padd,peval_pneg];omega
def psmul (a:Int) (q:List Int):List Int:=q.map fun x=>a*x
theorem peval_psmul (a:Int) (q:List Int) (x:Int):peval (psmul a q) x=a*peval q x:=by
 induction q with
 | nil=>simp [psmul,peval]
 | cons c q ih =>
  have:psmul a (c::q)=a*c::psmul a q:=rfl
  rw [this]
  simp only [peval,ih]
  generalize peval q x=y
  grind
theorem getD_psmul (a:Int) (q:List Int) (i:Nat):(psmul a q).getD i 0=a*q.getD i 0:=by
 unfold psmul
 simp only [List.getD_eq_getElem?_getD,List.getElem?_map]
 cases q[i]? <;> simp
def pmul:List Int→List Int→List Int
 | [],_=>[]
 | a::p,q=>padd (psmul a q) (0::pmul p q)
theorem peval_pmul (p q:List Int) (x:Int):peval (pmul p q) x=peval p x*peval q x:=by
 induction p with
 | nil=>simp [pmul,peval]
 | cons a p ih =>
  simp only [pmul,peval_padd,peval_psmul,peval,ih]
  generalize peval q x=y
  generalize peval p x=z
  grind
theorem pmul_trim (p q:List Int):trimL (pmul p q)=pmul p q:=by
 cases p with
 | nil=>rfl
 | cons a p=>exact padd_trim _ _
def hv:List Int→Int→Int→Int
 | [],_,_=>0
 | t::ts,x,d=>t*d^ts.length+x*hv ts x d
end Go.Ai

namespace Go.Proofs.Ythnnfemologhfaa
open Go.IntKind (i64 u64 u32)
open Go.Ai
set_option maxRecDepth 100000
theorem Yrun81r_1 (neg:Bool) (xs:List Int) (c1:((((trimL xs).length:Nat):Int)==0)=true) (n1:Runs Yir 125 [.sl xs.length (lm xs)] (.fresh 1 ((trimL xs).length) (lm (trimL xs)))):Runs Yir 81 [.agg [.bool neg, .sl xs.length (lm xs)]] (.int .i64 0):=Runs.go (fn:=Yi81) TBC_holds rfl 400 rfl [.r (.fresh 1 ((trimL xs).length) (lm (trimL xs))), .b true] (ac n1 (ac c1 a0)) (by kernel_rfl)
theorem Yrun81r_2 (neg:Bool) (xs:List Int) (c1:((((trimL xs).length:Nat):Int)==0)=false) (c2:(neg)=true) (n1:Runs Yir 125 [.sl xs.length (lm xs)] (.fresh 1 ((trimL xs).length) (lm (trimL xs)))):Runs Yir 81 [.agg [.bool neg, .sl xs.length (lm xs)]] (.int .i64 (-1)):=Runs.go (fn:=Yi81) TBC_holds rfl 400 rfl [.r (.fresh 1 ((trimL xs).length) (lm (trimL xs))), .b false, .b true] (ac n1 (ac c1 (ac c2 a0))) (by kernel_rfl)
theorem Yrun81r_3 (neg:Bool) (xs:List Int) (c1:((((trimL xs).length:Nat):Int)==0)=false) (c2:(neg)=false) (n1:Runs Yir 125 [.sl xs.length (lm xs)] (.fresh 1 ((trimL xs).length) (lm (trimL xs)))):Runs Yir 81 [.agg [.bool neg, .sl xs.length (lm xs)]] (.int .i64 1):=Runs.go (fn:=Yi81) TBC_holds rfl 400 rfl [.r (.fresh 1 ((trimL xs).length) (lm (trimL xs))), .b false, .b false] (ac n1 (ac c1 (ac c2 a0))) (by kernel_rfl)
theorem Yrun117 (neg:Bool) (xs:List Int) (v:Int) (n1:Runs Yir 106 [.bool (!neg), .sl xs.length (lm xs)] (bigF v)):Runs Yir 117 [.agg [.bool neg, .sl xs.length (lm xs)]] (bigAV v):=Runs.go (fn:=Yi117) TBC_holds rfl 400 rfl [.r (bigF v)] (ac n1 a0) (by kernel_rfl)
theorem Yrun93 (neg:Bool) (xs:List Int) (v:Int) (n1:Runs Yir 106 [.bool neg, .sl xs.length (lm xs)] (bigF v)):Runs Yir 93 [.agg [.bool neg, .sl xs.length (lm xs)]] (bigAV v):=Runs.go (fn:=Yi93) TBC_holds rfl 400 rfl [.r (bigF v)] (ac n1 a0) (by kernel_rfl)
def Ys138 (xs:List Int) (ys:List Int) (n:Nat) (cs:List AV) (c:Int) (i:Int):State:=(.val (.sl xs.length (lm xs))::(.val (.sl ys.length (lm ys))::(dds 3 (.own 1 n cs::(.val (.int .u64 c)::(.val (.int .i64 i)::(dds 46 [])))))))
theorem Yk138_1 (xs:List Int) (ys:List Int) (n:Nat) (cs:List AV) (c:Int) (i:Int)  (c1:(decide (i<(xs.length:Int)))=true) (c2:(decide (i<(ys.length:Int)))=true) (n1:0≤i∧i<(xs.length:Int)) (n2:0≤i∧i<(ys.length:Int)) (n3:n+1≤1048576):RunsW Yir Yc138 (Ys138 xs ys n cs c i) .norm (Ys138 xs ys (n+1) (cs++([.int .u32 (u32.wrap (u64.wrap ((u64.wrap (c+(u64.wrap (xs.getD (Int.toNat i) 0))))+(u64.wrap (ys.getD (Int.toNat i) 0)))))]:List AV)) (Int.fdiv (u64.wrap ((u64.wrap (c+(u64.wrap (xs.getD (Int.toNat i) 0))))+(u64.wrap (ys.getD (Int.toNat i) 0)))) (2^(min (Int.toNat 32) (IntKind.bits .u64)))) (i64.wrap (i+1))):=(RunsW.go TBC_holds 400 [.b true, .b true, .b true, .b true, .v (.int .u32 (xs.getD (Int.toNat i) 0)), .b true, .v (.int .u32 (ys.getD (Int.toNat i) 0))] [0,1,5,6,7] (ac c1 (ac (show true=true from rfl) (ac (show true=true from rfl) (ac c1 (ac n1 (ac (take_limI n1) (ac c2 (ac n2 (ac (take_limI n2) (ac (show List.length ([.int .u32 (u32.wrap (u64.wrap ((u64.wrap (c+(u64.wrap (xs.getD (Int.toNat i) 0))))+(u64.wrap (ys.getD (Int.toNat i) 0)))))]:List AV)=1*1 from rfl) (ac n3 (ac (show ¬ (32:Int)<0 from (by decide)) a0)))))))))))) (by kernel_rfl))
theorem Yk138_2 (xs:List Int) (ys:List Int) (n:Nat) (cs:List AV) (c:Int) (i:Int)  (c1:(decide (i<(xs.length:Int)))=true) (c2:(decide (i<(ys.length:Int)))=false) (n1:0≤i∧i<(xs.length:Int)) (n2:n+1≤1048576):RunsW Yir Yc138 (Ys138 xs ys n cs c i) .norm (Ys138 xs ys (n+1) (cs++([.int .u32 (u32.wrap (u64.wrap (c+(u64.wrap (xs.getD (Int.toNat i) 0)))))]:List AV)) (Int.fdiv (u64.wrap (c+(u64.wrap (xs.getD (Int.toNat i) 0)))) (2^(min (Int.toNat 32) (IntKind.bits .u64)))) (i64.wrap (i+1))):=(RunsW.go TBC_holds 400 [.b true, .b true, .b true, .b true, .v (.int .u32 (xs.getD (Int.toNat i) 0)), .b false] [0,1,5,6,7] (ac c1 (ac (show true=true from rfl) (ac (show true=true from rfl) (ac c1 (ac n1 (ac (take_limI n1) (ac c2 (ac (show List.length ([.int .u32 (u32.wrap (u64.wrap (c+(u64.wrap (xs.getD (Int.toNat i) 0)))))]:List AV)=1*1 from rfl) (ac n2 (ac (show ¬ (32:Int)<0 from (by decide)) a0)))))))))) (by kernel_rfl))
theorem Yk138_3 (xs:List Int) (ys:List Int) (n:Nat) (cs:List AV) (c:Int) (i:Int)  (c1:(decide (i<(xs.length:Int)))=false) (c2:(decide (i<(ys.length:Int)))=true) (n1:0≤i∧i<(ys.length:Int)) (n2:n+1≤1048576):RunsW Yir Yc138 (Ys138 xs ys n cs c i) .norm (Ys138 xs ys (n+1) (cs++([.int .u32 (u32.wrap (u64.wrap (c+(u64.wrap (ys.getD (Int.toNat i) 0)))))]:List AV)) (Int.fdiv (u64.wrap (c+(u64.wrap (ys.getD (Int.toNat i) 0)))) (2^(min (Int.toNat 32) (IntKind.bits .u64)))) (i64.wrap (i+1))):=(RunsW.go TBC_holds 400 [.b false, .b true, .b true, .b false, .b true, .v (.int .u32 (ys.getD (Int.toNat i) 0))] [0,1,5,6,7] (ac c1 (ac c2 (ac (show true=true from rfl) (ac c1 (ac c2 (ac n1 (ac (take_limI n1) (ac (show List.length ([.int .u32 (u32.wrap (u64.wrap (c+(u64.wrap (ys.getD (Int.toNat i) 0)))))]:List AV)=1*1 from rfl) (ac n2 (ac (show ¬ (32:Int)<0 from (by decide)) a0)))))))))) (by kernel_rfl))
theorem Yk138_4 (xs:List Int) (ys:List Int) (n:Nat) (cs:List AV) (c:Int) (i:Int)  (c1:(decide (i<(xs.length:Int)))=false) (c2:(decide (i<(ys.length:Int)))=false) (c3:(decide (c>0))=true) (n1:n+1≤1048576):RunsW Yir Yc138 (Ys138 xs ys n cs c i) .norm (Ys138 xs ys (n+1) (cs++([.int .u32 (u32.wrap c)]:List AV)) (Int.fdiv c (2^(min (Int.toNat 32) (IntKind.bits .u64)))) (i64.wrap (i+1))):=(RunsW.go TBC_holds 400 [.b false, .b false, .b true, .b false, .b false] [0,1,5,6,7] (ac c1 (ac c2 (ac c3 (ac c1 (ac c2 (ac (show List.length ([.int .u32 (u32.wrap c)]:List AV)=1*1 from rfl) (ac n1 (ac (show ¬ (32:Int)<0 from (by decide)) a0)))))))) (by kernel_rfl))
theorem Yk138_5 (xs:List Int) (ys:List Int) (n:Nat) (cs:List AV) (c:Int) (i:Int)  (c1:(decide (i<(xs.length:Int)))=false) (c2:(decide (i<(ys.length:Int)))=false) (c3:(decide (c>0))=false):RunsW Yir Yc138 (Ys138 xs ys n cs c i) (.exit 0) (Ys138 xs ys n cs c i):=(RunsW.go TBC_holds 400 [.b false, .b false, .b false] [0,1,5,6,7] (ac c1 (ac c2 (ac c3 a0))) (by kernel_rfl))
theorem Yrun138 (xs ys:List Int) (n:Nat) (cs:List AV) (c i:Int) (hl1:RunsW Yir (.loop Yc138) (Ys138 xs ys 0 [] 0 0) (.exit 0) (Ys138 xs ys n cs c i)):Runs Yir 138 [.sl xs.length (lm xs), .sl ys.length (lm ys)] (.fresh 1 n cs):=Runs.of_bodyW (fn:=Yi138) (s:=(dds 1 (.val (.sl ys.length (lm ys))::(dds 2 (.own 1 n cs::(dds 49 [])))))) (ex := .ret) rfl rfl (RunsW.seq (RunsW.go (t:=(vl xs::(vl ys::(dds 2 (.own 1 0 []::(dds 49 [])))))) (ex := .norm) TBC_holds 400 [] [0,1,4] a0 (by kernel_rfl)) (RunsW.seq (RunsW.go (t:=(vl xs::(vl ys::(dds 2 (.own 1 0 []::(.own 1 0 []::(dds 48 []))))))) (ex := .norm) TBC_holds 400 [] [0,1,4,5] a0 (by kernel_rfl)) (RunsW.seq (RunsW.go (t:=(vl xs::(vl ys::(dds 2 (.own 1 0 []::(.own 1 0 []::(.val (.int .u64 0)::(dds 47 [])))))))) (ex := .norm) TBC_holds 400 [] [0,1,4,5,6] a0 (by kernel_rfl)) (RunsW.seq (RunsW.seq (RunsW.go TBC_holds 400 [] [0,1,5,6,7] a0 (by kernel_rfl)) (RunsW.block hl1)) (RunsW.go TBC_holds 400 [] [1,4] a0 (by kernel_rfl)))))) (by intro i e;cases e) rfl
def Ys140 (xs:List Int) (ys:List Int) (n:Nat) (cs:List AV) (c:Int) (i:Int):State:=(.val (.sl xs.length (lm xs))::(.val (.sl ys.length (lm ys))::(dds 3 (.own 1 n cs::(.val (.int .u64 c)::(.val (.int .i64 i)::(dds 34 [])))))))
theorem Yk140_1 (xs:List Int) (ys:List Int) (n:Nat) (cs:List AV) (c:Int) (i:Int)  (c1:(decide (i<(xs.length:Int)))=true) (c2:(decide (i<(ys.length:Int)))=true) (n1:0≤i∧i<(ys.length:Int)) (n2:0≤i∧i<(xs.length:Int)) (n3:n+1≤1048576):RunsW Yir Yc140 (Ys140 xs ys n cs c i) .norm (Ys140 xs ys (n+1) (cs++([.int .u32 (u32.wrap (u64.wrap ((u64.wrap ((u64.wrap (xs.getD (Int.toNat i) 0))-(u64.wrap (ys.getD (Int.toNat i) 0))))-c)))]:List AV)) (Int.fdiv (u64.wrap ((u64.wrap ((u64.wrap (xs.getD (Int.toNat i) 0))-(u64.wrap (ys.getD (Int.toNat i) 0))))-c)) (2^(min (Int.toNat 63) (IntKind.bits .u64)))) (i64.wrap (i+1))):=(RunsW.go TBC_holds 400 [.b true, .b true, .v (.int .u32 (ys.getD (Int.toNat i) 0)), .v (.int .u32 (xs.getD (Int.toNat i) 0))] [0,1,5,6,7] (ac c1 (ac c2 (ac n1 (ac (take_limI n1) (ac n2 (ac (take_limI n2) (ac (show List.length ([.int .u32 (u32.wrap (u64.wrap ((u64.wrap ((u64.wrap (xs.getD (Int.toNat i) 0))-(u64.wrap (ys.getD (Int.toNat i) 0))))-c)))]:List AV)=1*1 from rfl) (ac n3 (ac (show ¬ (63:Int)<0 from (by decide)) a0))))))))) (by kernel_rfl))
theorem Yk140_2 (xs:List Int) (ys:List Int) (n:Nat) (cs:List AV) (c:Int) (i:Int)  (c1:(decide (i<(xs.length:Int)))=true) (c2:(decide (i<(ys.length:Int)))=false) (n1:0≤i∧i<(xs.length:Int)) (n2:n+1≤1048576):RunsW Yir Yc140 (Ys140 xs ys n cs c i) .norm (Ys140 xs ys (n+1) (cs++([.int .u32 (u32.wrap (u64.wrap ((u64.wrap ((u64.wrap (xs.getD (Int.toNat i) 0))-0))-c)))]:List AV)) (Int.fdiv (u64.wrap ((u64.wrap ((u64.wrap (xs.getD (Int.toNat i) 0))-0))-c)) (2^(min (Int.toNat 63) (IntKind.bits .u64)))) (i64.wrap (i+1))):=(RunsW.go TBC_holds 400 [.b true, .b false, .v (.int .u32 (xs.getD (Int.toNat i) 0))] [0,1,5,6,7] (ac c1 (ac c2 (ac n1 (ac (take_limI n1) (ac (show List.length ([.int .u32 (u32.wrap (u64.wrap ((u64.wrap ((u64.wrap (xs.getD (Int.toNat i) 0))-0))-c)))]:List AV)=1*1 from rfl) (ac n2 (ac (show ¬ (63:Int)<0 from (by decide)) a0))))))) (by kernel_rfl))
theorem Yk140_3 (xs:List Int) (ys:List Int) (n:Nat) (cs:List AV) (c:Int) (i:Int)  (c1:(decide (i<(xs.length:Int)))=false):RunsW Yir Yc140 (Ys140 xs ys n cs c i) (.exit 0) (Ys140 xs ys n cs c i):=(RunsW.go TBC_holds 400 [.b false] [0,1,5,6,7] (ac c1 a0) (by kernel_rfl))
theorem Yrun140 (xs ys:List Int) (n:Nat) (cs:List AV) (c i:Int) (hl1:RunsW Yir (.loop Yc140) (Ys140 xs ys 0 [] 0 0) (.exit 0) (Ys140 xs ys n cs c i)):Runs Yir 140 [.sl xs.length (lm xs), .sl ys.length (lm ys)] (.fresh 1 n cs):=Runs.of_bodyW (fn:=Yi140) (s:=(dds 1 (.val (.sl ys.length (lm ys))::(dds 2 (.own 1 n cs::(dds 37 [])))))) (ex := .ret) rfl rfl (RunsW.seq (RunsW.go (t:=(vl xs::(vl ys::(dds 2 (.own 1 0 []::(dds 37 [])))))) (ex := .norm) TBC_holds 400 [] [0,1,4] a0 (by kernel_rfl)) (RunsW.seq (RunsW.go (t:=(vl xs::(vl ys::(dds 2 (.own 1 0 []::(.own 1 0 []::(dds 36 []))))))) (ex := .norm) TBC_holds 400 [] [0,1,4,5] a0 (by kernel_rfl)) (RunsW.seq (RunsW.go (t:=(vl xs::(vl ys::(dds 2 (.own 1 0 []::(.own 1 0 []::(.val (.int .u64 0)::(dds 35 [])))))))) (ex := .norm) TBC_holds 400 [] [0,1,4,5,6] a0 (by kernel_rfl)) (RunsW.seq (RunsW.seq (RunsW.go TBC_holds 400 [] [0,1,5,6,7] a0 (by kernel_rfl)) (RunsW.block hl1)) (RunsW.go TBC_holds 400 [] [1,4] a0 (by kernel_rfl)))))) (by intro i e;cases e) rfl
theorem lm_snoc (xs:List Int) (v:Int):lm xs++([.int .u32 v]:List AV)=lm (xs++[v]):=by simp [lm]
theorem u32_snoc {xs:List Int} (h:U32 xs) {v:Int} (hv:0≤v∧v<4294967296):U32 (xs++[v]):=by
 intro x hx
 rcases List.mem_append.1 hx with g | g
 ·exact h x g
 ·rw [List.mem_singleton.1 g];exact hv
theorem valL_snoc (xs:List Int) (v:Int):valL (xs++[v])=valL xs+4294967296^xs.length*v:=by rw [valL_append];simp [valL]
theorem sr32 {s:Int}:Int.fdiv s (2^(min (Int.toNat 32) (IntKind.bits .u64)))=s / 4294967296:=by
 show Int.fdiv s 4294967296=_
 rw [Int.fdiv_eq_ediv_of_nonneg _ (by omega)]
theorem sr63 {s:Int}:Int.fdiv s (2^(min (Int.toNat 63) (IntKind.bits .u64)))=s / 9223372036854775808:=by
 show Int.fdiv s 9223372036854775808=_
 rw [Int.fdiv_eq_ediv_of_nonneg _ (by omega)]
theorem Yloop138 {xs ys:List Int} (hx:U32 xs) (hy:U32 ys) (h1:xs.length<1048576) (h2:ys.length<1048576):∀ (r i:Nat) (acc:List Int) (c:Int),i+r=max xs.length ys.length→acc.length=i→U32 acc→0≤c∧c≤1 →
  ∃ (zs:List Int) (c' i':Int),U32 zs∧zs.length≤max xs.length ys.length+1∧valL zs=valL acc+4294967296^i*(c+valL (xs.drop i)+valL (ys.drop i)) ∧
   RunsW Yir (.loop Yc138) (Ys138 xs ys i (lm acc) c (i:Nat)) (.exit 0) (Ys138 xs ys zs.length (lm zs) c' i'):=by
 intro r
 induction r with
 | zero =>
  intro i acc c hi hl hu hc
  have e1:valL (xs.drop i)=0:=drop_end (by omega)
  have e2:valL (ys.drop i)=0:=drop_end (by omega)
  have g1:decide ((i:Int)<(xs.length:Int))=false:=by simp;omega
  have g2:decide ((i:Int)<(ys.length:Int))=false:=by simp;omega
  by_cases hc0:c=0
  ·refine ⟨acc,c,i,hu,by omega,by rw [e1,e2,hc0];simp,?_⟩
   rw [hl]
   exact RunsW.loop_out (Yk138_5 xs ys i (lm acc) c (i:Nat) g1 g2 (by simp;omega)) (by intro e;cases e)
  ·have hc1:c=1:=by omega
   subst hc1
   refine ⟨acc++[1],0,i64.wrap ((i:Int)+1),u32_snoc hu (by omega),by simp;omega,by rw [valL_snoc,e1,e2,hl];simp,?_⟩
   have k:=Yk138_4 xs ys i (lm acc) 1 (i:Nat) g1 g2 (by simp) (by omega)
   rw [sr32,wu32,show (1:Int) % 4294967296=1 by decide,show (1:Int) / 4294967296=0 by decide,lm_snoc] at k
   have ei:i64.wrap ((i:Int)+1)=((i+1:Nat):Int):=by rw [w64 (by omega) (by omega)];omega
   rw [ei] at k ⊢
   have k2:=Yk138_5 xs ys (i+1) (lm (acc++[1])) 0 ((i+1:Nat):Int) (by simp;omega) (by simp;omega) (by simp)
   have hll:(acc++[1]).length=i+1:=by simp [hl]
   rw [hll]
   exact RunsW.loop k (RunsW.loop_out k2 (by intro e;cases e))
 | succ r ih =>
  intro i acc c hi hl hu hc
  have bx:=getD_u32 hx i
  have byy:=getD_u32 hy i
  have ei:i64.wrap ((i:Int)+1)=((i+1:Nat):Int):=by rw [w64 (by omega) (by omega)];omega
  have step:RunsW Yir Yc138 (Ys138 xs ys i (lm acc) c (i:Nat)) .norm (Ys138 xs ys (i+1) (lm (acc++[(c+xs.getD i 0+ys.getD i 0) % 4294967296])) ((c+xs.getD i 0+ys.getD i 0) / 4294967296) ((i+1:Nat):Int)):=by
   have wx:u64.wrap (xs.getD i 0)=xs.getD i 0:=by rw [wu64m];omega
   have wy:u64.wrap (ys.getD i 0)=ys.getD i 0:=by rw [wu64m];omega
   by_cases g1:i<xs.length <;> by_cases g2:i<ys.length
   ·have k:=Yk138_1 xs ys i (lm acc) c (i:Nat) (by simp;omega) (by simp;omega) (by omega) (by omega) (by omega)
    have w1:u64.wrap (u64.wrap (c+xs.getD i 0)+ys.getD i 0)=c+xs.getD i 0+ys.getD i 0:=by rw [wu64m,wu64m];omega
    simp only [Int.toNat_natCast,wx,wy,w1,sr32,wu32,ei,lm_snoc] at k
    exact k
   ·have k:=Yk138_2 xs ys i (lm acc) c (i:Nat) (by simp;omega) (by simp;omega) (by omega) (by omega)
    have hz:ys.getD i 0=0:=getD_end (by omega)
    have w1:u64.wrap (c+xs.getD i 0)=c+xs.getD i 0+ys.getD i 0:=by rw [wu64m,hz];omega
    simp only [Int.toNat_natCast,wx,w1,sr32,wu32,ei,lm_snoc] at k
    exact k
   ·have k:=Yk138_3 xs ys i (lm acc) c (i:Nat) (by simp;omega) (by simp;omega) (by omega) (by omega)
    have hz:xs.getD i 0=0:=getD_end (by omega)
    have w1:u64.wrap (c+ys.getD i 0)=c+xs.getD i 0+ys.getD i 0:=by rw [wu64m,hz];omega
    simp only [Int.toNat_natCast,wy,w1,sr32,wu32,ei,lm_snoc] at k
    exact k
   ·omega
  obtain ⟨zs,c',i',q1,q2,q3,q4⟩:=ih (i+1) (acc++[(c+xs.getD i 0+ys.getD i 0) % 4294967296]) ((c+xs.getD i 0+ys.getD i 0) / 4294967296) (by omega) (by simp [hl]) (u32_snoc hu (by omega)) (by omega)
  refine ⟨zs,c',i',q1,q2,?_,RunsW.loop step q4⟩
  rw [q3,valL_snoc,hl,drop_val xs i,drop_val ys i,Int.pow_succ]
  have hd:=Int.emod_add_mul_ediv (c+xs.getD i 0+ys.getD i 0) 4294967296
  generalize (c+xs.getD i 0+ys.getD i 0) % 4294967296=m at *
  generalize (c+xs.getD i 0+ys.getD i 0) / 4294967296=d at *
  generalize (4294967296:Int)^i=p at *
  generalize valL (xs.drop (i+1))=X at *
  generalize valL (ys.drop (i+1))=Y at *
  have:c+(xs.getD i 0+4294967296*X)+(ys.getD i 0+4294967296*Y)=m+4294967296*(d+X+Y):=by omega
  rw [this]
  grind
theorem addMag_run {xs ys:List Int} (hx:U32 xs) (hy:U32 ys) (h1:xs.length<1048576) (h2:ys.length<1048576):∃ zs,U32 zs∧valL zs=valL xs+valL ys∧zs.length≤max xs.length ys.length+1∧Runs Yir 138 [.sl xs.length (lm xs), .sl ys.length (lm ys)] (.fresh 1 zs.length (lm zs)):=by
 obtain ⟨zs,c',i',q1,q2,q3,q4⟩:=Yloop138 hx hy h1 h2 (max xs.length ys.length) 0 [] 0 (by omega) rfl (fun x hx=>by cases hx) (by omega)
 refine ⟨zs,q1,by rw [q3];simp [valL],q2,?_⟩
 exact Yrun138 xs ys _ _ _ _ q4
theorem Yloop140 {xs ys:List Int} (hx:U32 xs) (hy:U32 ys) (hl2:ys.length≤xs.length) (h1:xs.length≤1048576):∀ (r i:Nat) (acc:List Int) (c:Int),i+r=xs.length→acc.length=i→U32 acc→0≤c∧c≤1 →
  ∃ (zs:List Int) (c' i':Int),U32 zs∧zs.length=xs.length∧0≤c'∧valL zs-4294967296^xs.length*c'=valL acc+4294967296^i*(valL (xs.drop i)-valL (ys.drop i)-c) ∧
   RunsW Yir (.loop Yc140) (Ys140 xs ys i (lm acc) c (i:Nat)) (.exit 0) (Ys140 xs ys zs.length (lm zs) c' i'):=by
 intro r
 induction r with
 | zero =>
  intro i acc c hi hl hu hc
  have e1:valL (xs.drop i)=0:=drop_end (by omega)
  have e2:valL (ys.drop i)=0:=drop_end (by omega)
  have hii:xs.length=i:=by omega
  refine ⟨acc,c,i,hu,by omega,hc.1,by rw [e1,e2,hii];grind,?_⟩
  rw [hl]
  exact RunsW.loop_out (Yk140_3 xs ys i (lm acc) c (i:Nat) (by simp;omega)) (by intro e;cases e)
 | succ r ih =>
  intro i acc c hi hl hu hc
  have bx:=getD_u32 hx i
  have byy:=getD_u32 hy i
  have ei:i64.wrap ((i:Int)+1)=((i+1:Nat):Int):=by rw [w64 (by omega) (by omega)];omega
  have step:RunsW Yir Yc140 (Ys140 xs ys i (lm acc) c (i:Nat)) .norm (Ys140 xs ys (i+1) (lm (acc++[(xs.getD i 0-ys.getD i 0-c) % 4294967296])) (-((xs.getD i 0-ys.getD i 0-c) / 4294967296)) ((i+1:Nat):Int)):=by
   have wx:u64.wrap (xs.getD i 0)=xs.getD i 0:=by rw [wu64m];omega
   have wy:u64.wrap (ys.getD i 0)=ys.getD i 0:=by rw [wu64m];omega
   by_cases g2:i<ys.length
   ·have k:=Yk140_1 xs ys i (lm acc) c (i:Nat) (by simp;omega) (by simp;omega) (by omega) (by omega) (by omega)
    have w1:u64.wrap (u64.wrap (xs.getD i 0-ys.getD i 0)-c) % 4294967296=(xs.getD i 0-ys.getD i 0-c) % 4294967296:=by rw [wu64m,wu64m];omega
    have w2:u64.wrap (u64.wrap (xs.getD i 0-ys.getD i 0)-c) / 9223372036854775808 = -((xs.getD i 0-ys.getD i 0-c) / 4294967296):=by rw [wu64m,wu64m];omega
    simp only [Int.toNat_natCast,wx,wy,sr63,wu32,w1,w2,ei,lm_snoc] at k
    exact k
   ·have k:=Yk140_2 xs ys i (lm acc) c (i:Nat) (by simp;omega) (by simp;omega) (by omega) (by omega)
    have hz:ys.getD i 0=0:=getD_end (by omega)
    have w1:u64.wrap (u64.wrap (xs.getD i 0-0)-c) % 4294967296=(xs.getD i 0-ys.getD i 0-c) % 4294967296:=by rw [wu64m,wu64m,hz];omega
    have w2:u64.wrap (u64.wrap (xs.getD i 0-0)-c) / 9223372036854775808 = -((xs.getD i 0-ys.getD i 0-c) / 4294967296):=by rw [wu64m,wu64m,hz];omega
    simp only [Int.toNat_natCast,wx,sr63,wu32,w1,w2,ei,lm_snoc] at k
    exact k
  obtain ⟨zs,c',i',q1,q2,q0,q3,q4⟩:=ih (i+1) (acc++[(xs.getD i 0-ys.getD i 0-c) % 4294967296]) (-((xs.getD i 0-ys.getD i 0-c) / 4294967296)) (by omega) (by simp [hl]) (u32_snoc hu (by omega)) (by omega)
  refine ⟨zs,c',i',q1,q2,q0,?_,RunsW.loop step q4⟩
  rw [q3,valL_snoc,hl,drop_val xs i,drop_val ys i,Int.pow_succ]
  have hd:=Int.emod_add_mul_ediv (xs.getD i 0-ys.getD i 0-c) 4294967296
  generalize (xs.getD i 0-ys.getD i 0-c) % 4294967296=m at *
  generalize (xs.getD i 0-ys.getD i 0-c) / 4294967296=d at *
  generalize (4294967296:Int)^i=p at *
  generalize valL (xs.drop (i+1))=X at *
  generalize valL (ys.drop (i+1))=Y at *
  have:xs.getD i 0+4294967296*X-(ys.getD i 0+4294967296*Y)-c=m+4294967296*(d+X-Y):=by omega
  rw [this]
  grind
theorem subMag_run {xs ys:List Int} (hx:U32 xs) (hy:U32 ys) (hl:ys.length≤xs.length) (hv:valL ys≤valL xs) (h1:xs.length≤1048576):∃ zs,U32 zs∧valL zs=valL xs-valL ys∧zs.length=xs.length∧Runs Yir 140 [.sl xs.length (lm xs), .sl ys.length (lm ys)] (.fresh 1 zs.length (lm zs)):=by
 obtain ⟨zs,c',i',q1,q2,q0,q3,q4⟩:=Yloop140 hx hy hl h1 xs.length 0 [] 0 (by omega) rfl (fun x hx=>by cases hx) (by omega)
 simp only [valL,Int.pow_zero,List.drop_zero,Int.one_mul,Int.zero_add,Int.sub_zero] at q3
 have hlt:=valL_lt q1
 rw [q2] at hlt
 have hp:=pow32_pos xs.length
 have hc:c'=0:=by
  generalize (4294967296:Int)^xs.length=p at *
  rcases Int.lt_or_le 0 c' with g | g
  ·have:p*1≤p*c':=Int.mul_le_mul_of_nonneg_left (by omega) (by omega)
   omega
  ·omega
 subst hc
 refine ⟨zs,q1,by simpa using q3,q2,?_⟩
 exact Yrun140 xs ys _ _ _ _ q4
theorem mk1_run {neg:Bool} {xs:List Int} (hu:U32 xs) (hN:xs.length≤1048576):Runs Yir 106 [.bool neg, .sl xs.length (lm xs)] (bigF (rv neg xs)):=make1_run hu hN
theorem rsign_run {neg:Bool} {xs:List Int} (hu:U32 xs) (hN:xs.length≤1048576):Runs Yir 81 [.agg [.bool neg, .sl xs.length (lm xs)]] (.int .i64 (sgnI (rv neg xs))):=by
 have hm:=mag_run hN
 have hz:(trimL xs).length=0↔valL xs=0:=by
  have:=valL_nonneg hu
  rw [trimL_eq hu,limbs_zero_len];omega
 have hv:=valL_nonneg hu
 by_cases h0:valL xs=0
 ·have h:=Yrun81r_1 neg xs (by rw [beq_iff_eq];omega) hm
  have e:sgnI (rv neg xs)=0:=by unfold rv;rw [h0];cases neg <;> rfl
  rw [e];exact h
 ·cases neg with
  | true =>
   have h:=Yrun81r_2 true xs (by rw [beq_eq_false_iff_ne];omega) rfl hm
   have e:sgnI (rv true xs) = -1:=by simp only [rv,if_true,sgnI]; (repeat' split) <;> omega
   rw [e];exact h
  | false =>
   have h:=Yrun81r_3 false xs (by rw [beq_eq_false_iff_ne];omega) rfl hm
   have e:sgnI (rv false xs)=1:=by simp only [rv,Bool.false_eq_true,if_false,sgnI]; (repeat' split) <;> omega
   rw [e];exact h
theorem rv_flip (neg:Bool) (xs:List Int):rv (!neg) xs = -(rv neg xs):=by unfold rv;cases neg <;> simp
theorem rneg_run {neg:Bool} {xs:List Int} (hu:U32 xs) (hN:xs.length≤1048576):Runs Yir 117 [.agg [.bool neg, .sl xs.length (lm xs)]] (bigAV (-(rv neg xs))):=by
 have h:=mk1_run (neg := !neg) hu hN
 rw [rv_flip] at h
 exact Yrun117 neg xs _ h
theorem rtrim_run {neg:Bool} {xs:List Int} (hu:U32 xs) (hN:xs.length≤1048576):Runs Yir 93 [.agg [.bool neg, .sl xs.length (lm xs)]] (bigAV (rv neg xs)):=Yrun93 neg xs _ (mk1_run hu hN)
theorem Yrun104_1 (na nb:Bool) (xs ys zs:List Int) (v:Int) (c1:(na==nb)=true) (n1:Runs Yir 125 [.sl xs.length (lm xs)] (.fresh 1 ((trimL xs).length) (lm (trimL xs)))) (n2:Runs Yir 125 [.sl ys.length (lm ys)] (.fresh 1 ((trimL ys).length) (lm (trimL ys)))) (n3:Runs Yir 138 [.sl ((trimL xs).length) (lm (trimL xs)), .sl ((trimL ys).length) (lm (trimL ys))] (.fresh 1 zs.length (lm zs))) (n4:Runs Yir 106 [.bool na, .sl zs.length (lm zs)] (bigF v)):Runs Yir 104 [.agg [.bool na, .sl xs.length (lm xs)], .agg [.bool nb, .sl ys.length (lm ys)]] (bigAV v):=Runs.go (fn:=Yi104) TBC_holds rfl 400 rfl [.r (.fresh 1 ((trimL xs).length) (lm (trimL xs))), .r (.fresh 1 ((trimL ys).length) (lm (trimL ys))), .b true, .r (.fresh 1 zs.length (lm zs)), .r (bigF v)] (ac n1 (ac n2 (ac c1 (ac n3 (ac n4 a0))))) (by kernel_rfl)
theorem Yrun104_2 (na nb:Bool) (xs ys zs:List Int) (v c:Int) (c1:(na==nb)=false) (c2:(decide (c≥0))=true) (n1:Runs Yir 125 [.sl xs.length (lm xs)] (.fresh 1 ((trimL xs).length) (lm (trimL xs)))) (n2:Runs Yir 125 [.sl ys.length (lm ys)] (.fresh 1 ((trimL ys).length) (lm (trimL ys)))) (n3:Runs Yir 139 [.sl ((trimL xs).length) (lm (trimL xs)), .sl ((trimL ys).length) (lm (trimL ys))] (.int .i64 c)) (n4:Runs Yir 140 [.sl ((trimL xs).length) (lm (trimL xs)), .sl ((trimL ys).length) (lm (trimL ys))] (.fresh 1 zs.length (lm zs))) (n5:Runs Yir 106 [.bool na, .sl zs.length (lm zs)] (bigF v)):Runs Yir 104 [.agg [.bool na, .sl xs.length (lm xs)], .agg [.bool nb, .sl ys.length (lm ys)]] (bigAV v):=Runs.go (fn:=Yi104) TBC_holds rfl 400 rfl [.r (.fresh 1 ((trimL xs).length) (lm (trimL xs))), .r (.fresh 1 ((trimL ys).length) (lm (trimL ys))), .b false, .r (.int .i64 c), .b true, .r (.fresh 1 zs.length (lm zs)), .r (bigF v)] (ac n1 (ac n2 (ac c1 (ac n3 (ac c2 (ac n4 (ac n5 a0))))))) (by kernel_rfl)
theorem Yrun104_3 (na nb:Bool) (xs ys zs:List Int) (v c:Int) (c1:(na==nb)=false) (c2:(decide (c≥0))=false) (n1:Runs Yir 125 [.sl xs.length (lm xs)] (.fresh 1 ((trimL xs).length) (lm (trimL xs)))) (n2:Runs Yir 125 [.sl ys.length (lm ys)] (.fresh 1 ((trimL ys).length) (lm (trimL ys)))) (n3:Runs Yir 139 [.sl ((trimL xs).length) (lm (trimL xs)), .sl ((trimL ys).length) (lm (trimL ys))] (.int .i64 c)) (n4:Runs Yir 140 [.sl ((trimL ys).length) (lm (trimL ys)), .sl ((trimL xs).length) (lm (trimL xs))] (.fresh 1 zs.length (lm zs))) (n5:Runs Yir 106 [.bool nb, .sl zs.length (lm zs)] (bigF v)):Runs Yir 104 [.agg [.bool na, .sl xs.length (lm xs)], .agg [.bool nb, .sl ys.length (lm ys)]] (bigAV v):=Runs.go (fn:=Yi104) TBC_holds rfl 400 rfl [.r (.fresh 1 ((trimL xs).length) (lm (trimL xs))), .r (.fresh 1 ((trimL ys).length) (lm (trimL ys))), .b false, .r (.int .i64 c), .b false, .r (.fresh 1 zs.length (lm zs)), .r (bigF v)] (ac n1 (ac n2 (ac c1 (ac n3 (ac c2 (ac n4 (ac n5 a0))))))) (by kernel_rfl)
theorem Yrun118 (na nb:Bool) (xs ys:List Int) (v w:Int) (n1:Runs Yir 117 [.agg [.bool nb, .sl ys.length (lm ys)]] (bigAV w)) (n2:Runs Yir 104 [.agg [.bool na, .sl xs.length (lm xs)],bigAV w] (bigAV v)):Runs Yir 118 [.agg [.bool na, .sl xs.length (lm xs)], .agg [.bool nb, .sl ys.length (lm ys)]] (bigAV v):=Runs.go (fn:=Yi118) TBC_holds rfl 400 rfl [.r (bigAV w), .r (bigAV v)] (ac n1 (ac n2 a0)) (by kernel_rfl)
theorem Yrun79 (neg:Bool) (xs:List Int) (n1:Runs Yir 125 [.sl xs.length (lm xs)] (.fresh 1 ((trimL xs).length) (lm (trimL xs)))):Runs Yir 79 [.agg [.bool neg, .sl xs.length (lm xs)]] (.bool (decide ((((trimL xs).length:Nat):Int)>256))):=Runs.go (fn:=Yi79) TBC_holds rfl 400 rfl [.r (.fresh 1 ((trimL xs).length) (lm (trimL xs)))] (ac n1 a0) (by kernel_rfl)
theorem trim_rv (neg:Bool) (xs:List Int):rv neg (trimL xs)=rv neg xs:=by unfold rv;rw [trimL_val]
theorem trim_u32 {xs:List Int} (h:U32 xs):U32 (trimL xs):=(trimL_canon h).1
theorem rplus_run {na nb:Bool} {xs ys:List Int} (hx:U32 xs) (hy:U32 ys) (h1:xs.length<1048576) (h2:ys.length<1048576):Runs Yir 104 [.agg [.bool na, .sl xs.length (lm xs)], .agg [.bool nb, .sl ys.length (lm ys)]] (bigAV (rv na xs+rv nb ys)):=by
 have t1:=trim_len xs
 have t2:=trim_len ys
 have c1:=trimL_canon hx
 have c2:=trimL_canon hy
 have m1:=mag_run (xs:=xs) (by omega)
 have m2:=mag_run (xs:=ys) (by omega)
 have hcmp:=cmpMag_run c1 c2 (by omega)
 by_cases hn:na=nb
 ·subst hn
  obtain ⟨zs,z1,z2,z3,z4⟩:=addMag_run c1.1 c2.1 (by omega) (by omega)
  have hk:=mk1_run (neg:=na) z1 (by omega)
  have e:rv na zs=rv na xs+rv na ys:=by
   unfold rv;rw [z2,trimL_val,trimL_val];cases na <;> simp;omega
  rw [e] at hk
  exact Yrun104_1 na na xs ys zs _ (by simp) m1 m2 z4 hk
 ·have hb:nb = !na:=by cases na <;> cases nb <;> simp at hn ⊢
  by_cases hc:cmpI (valL (trimL xs)) (valL (trimL ys))≥0
  ·have hle:valL (trimL ys)≤valL (trimL xs):=by unfold cmpI at hc;split at hc <;> (try split at hc) <;> omega
   have hlen:(trimL ys).length≤(trimL xs).length:=canon_len c2 (Int.lt_of_le_of_lt hle (valL_lt c1.1))
   obtain ⟨zs,z1,z2,z3,z4⟩:=subMag_run c1.1 c2.1 hlen hle (by omega)
   have hk:=mk1_run (neg:=na) z1 (by omega)
   have e:rv na zs=rv na xs+rv nb ys:=by
    unfold rv;rw [z2,trimL_val,trimL_val,hb];cases na <;> simp <;> omega
   rw [e] at hk
   exact Yrun104_2 na nb xs ys zs _ _ (by rw [hb];cases na <;> rfl) (by simpa using hc) m1 m2 hcmp z4 hk
  ·have hle:valL (trimL xs)≤valL (trimL ys):=by unfold cmpI at hc;split at hc <;> (try split at hc) <;> omega
   have hlen:(trimL xs).length≤(trimL ys).length:=canon_len c1 (Int.lt_of_le_of_lt hle (valL_lt c2.1))
   obtain ⟨zs,z1,z2,z3,z4⟩:=subMag_run c2.1 c1.1 hlen hle (by omega)
   have hk:=mk1_run (neg:=nb) z1 (by omega)
   have e:rv nb zs=rv na xs+rv nb ys:=by
    unfold rv;rw [z2,trimL_val,trimL_val,hb];cases na <;> simp <;> omega
   rw [e] at hk
   exact Yrun104_3 na nb xs ys zs _ _ (by rw [hb];cases na <;> rfl) (by simpa using hc) m1 m2 hcmp z4 hk
theorem rminus_run {na nb:Bool} {xs ys:List Int} (hx:U32 xs) (hy:U32 ys) (h1:xs.length<1048576) (h2:ys.length<1048576):Runs Yir 118 [.agg [.bool na, .sl xs.length (lm xs)], .agg [.bool nb, .sl ys.length (lm ys)]] (bigAV (rv na xs-rv nb ys)):=by
 have hn:=rneg_run (neg:=nb) hy (by omega)
 have hl:(limbs (-(rv nb ys)).natAbs).length<1048576:=by rw [Int.natAbs_neg];exact Nat.lt_of_le_of_lt (rv_len hy) h2
 have h:=rplus_run (na:=na) (nb:=decide (-(rv nb ys)<0)) hx (big_u32 (-(rv nb ys)).natAbs) h1 hl
 rw [rv_big] at h
 exact Yrun118 na nb xs ys _ _ hn h
theorem rlarge_run {neg:Bool} {xs:List Int} (hN:xs.length≤1048576):Runs Yir 79 [.agg [.bool neg, .sl xs.length (lm xs)]] (.bool (decide (256<(trimL xs).length))):=by
 have h:=Yrun79 neg xs (mag_run hN)
 have e:decide ((((trimL xs).length:Nat):Int)>256)=decide (256<(trimL xs).length):=by rw [decide_eq_decide];omega
 rw [e] at h
 exact h
def TBD:Table:=TBC
theorem TBD_holds:THolds Yir TBD:=TBC_holds
end Go.Proofs.Ythnnfemologhfaa

namespace Go.Proofs.Ythnnfemologhfaa
open Go.IntKind (i64 u64 u32)
open Go.Ai
theorem or64 {q c:Int} {s:Nat} (hq:0≤q) (hs:q*2^s<18446744073709551616) (hs':s≤64) (hc:0≤c∧c<2^s) :
  u64.wrap ((BitVec.ofInt (IntKind.bits .u64) (q*2^s) ||| BitVec.ofInt (IntKind.bits .u64) c).toNat)=q*2^s+c:=by
 obtain ⟨a,rfl⟩:∃ a:Nat,q=a:=⟨q.toNat,by omega⟩
 obtain ⟨b,rfl⟩:∃ b:Nat,c=b:=⟨c.toNat,by omega⟩
 have e1:(a:Int)*2^s=((a*2^s:Nat):Int):=by rw [Int.natCast_mul,Int.natCast_pow];rfl
 have hb:b<2^s:=by
  have:(b:Int)<((2^s:Nat):Int):=by rw [Int.natCast_pow];exact hc.2
  omega
 have h64:2^s≤2^64:=Nat.pow_le_pow_right (by decide) hs'
 have e64:2^64=18446744073709551616:=by decide
 rw [e1] at hs ⊢
 show u64.wrap ((BitVec.ofInt 64 ((a*2^s:Nat):Int) ||| BitVec.ofInt 64 (b:Int)).toNat:Int)=_
 rw [BitVec.toNat_or,BitVec.ofInt_natCast,BitVec.ofInt_natCast,BitVec.toNat_ofNat,BitVec.toNat_ofNat,Nat.mod_eq_of_lt (by omega),Nat.mod_eq_of_lt (by omega),Nat.mul_comm a,← Nat.two_pow_add_eq_or_of_lt hb,Nat.mul_comm (2^s) a,wu64m]
 have hsum:a*2^s+b<18446744073709551616:=by
  have hd:a*2^s+2^s≤2^64:=by
   have hk:2^64=2^(64-s)*2^s:=by rw [← Nat.pow_add];congr 1;omega
   have h1:a<2^(64-s):=by
    rcases Nat.lt_or_ge a (2^(64-s)) with g | g
    ·exact g
    ·have:=Nat.mul_le_mul_right (2^s) g
     omega
   have h2:=Nat.mul_le_mul_right (2^s) (show a+1≤2^(64-s) by omega)
   rw [Nat.add_mul,Nat.one_mul] at h2
   omega
  omega
 omega
theorem pow2_pos (n:Nat):(0:Int)<2^n:=Int.pow_pos (by decide)
theorem pow2_le {a b:Nat} (h:a≤b):(2:Int)^a≤2^b:=by
 have h1:2^a≤2^b:=Nat.pow_le_pow_right (by decide) h
 have e:∀ n:Nat,(2:Int)^n=((2^n:Nat):Int):=fun n=>by rw [Int.natCast_pow];rfl
 rw [e,e]
 omega
theorem pow32_two (n:Nat):(4294967296:Int)^n=2^(32*n):=by
 rw [Int.pow_mul];rfl
theorem pow2_split (n:Nat):(2:Int)^n=4294967296^(n / 32)*2^(n % 32):=by
 rw [pow32_two,← Int.pow_add,Nat.div_add_mod]
end Go.Proofs.Ythnnfemologhfaa

namespace Go.Proofs.Ythnnfemologhfaa
open Go.IntKind (i64 u64 u32)
open Go.Ai
set_option maxRecDepth 100000
def Ys126 (neg:Bool) (xs:List Int) (n:Nat) (cs:List AV) (c:Int) (s:Int) (ms:List Int) (i:Int):State:=(dds 2 (.box [.bool neg, .sl xs.length (lm xs)]::(dds 1 (.box [.bool false, .sl 0 []]::(.own 1 n cs::(.val (.int .u32 c)::(.val (.int .u64 s)::(.val (.sl ms.length (lm ms))::(.val (.int .i64 i)::(dds 41 []))))))))))
theorem Yk126_1 (neg:Bool) (xs:List Int) (n:Nat) (cs:List AV) (c:Int) (s:Int) (ms:List Int) (i:Int)  (c1:(decide (i<(ms.length:Int)))=true) (n1:0≤i∧i<(ms.length:Int)) (n2:¬ s<0) (n3:n+1≤1048576):RunsW Yir Yc126 (Ys126 neg xs n cs c s ms i) .norm (Ys126 neg xs (n+1) (cs++([.int .u32 (u32.wrap (u64.wrap ((BitVec.ofInt (IntKind.bits .u64) (u64.wrap ((u64.wrap (ms.getD (Int.toNat i) 0))*2^(min (Int.toNat s) (IntKind.bits .u64)))) ||| BitVec.ofInt (IntKind.bits .u64) (u64.wrap c)).toNat)))]:List AV)) (u32.wrap (Int.fdiv (u64.wrap ((BitVec.ofInt (IntKind.bits .u64) (u64.wrap ((u64.wrap (ms.getD (Int.toNat i) 0))*2^(min (Int.toNat s) (IntKind.bits .u64)))) ||| BitVec.ofInt (IntKind.bits .u64) (u64.wrap c)).toNat)) (2^(min (Int.toNat 32) (IntKind.bits .u64))))) s ms (i64.wrap (i+1))):=(RunsW.go TBD_holds 400 [.b true, .v (.int .u32 (ms.getD (Int.toNat i) 0))] [2,4,5,6,7,8,9] (ac c1 (ac n1 (ac (take_limI n1) (ac n2 (ac (show List.length ([.int .u32 (u32.wrap (u64.wrap ((BitVec.ofInt (IntKind.bits .u64) (u64.wrap ((u64.wrap (ms.getD (Int.toNat i) 0))*2^(min (Int.toNat s) (IntKind.bits .u64)))) ||| BitVec.ofInt (IntKind.bits .u64) (u64.wrap c)).toNat)))]:List AV)=1*1 from rfl) (ac n3 (ac (show ¬ (32:Int)<0 from (by decide)) a0))))))) (by kernel_rfl))
theorem Yk126_2 (neg:Bool) (xs:List Int) (n:Nat) (cs:List AV) (c:Int) (s:Int) (ms:List Int) (i:Int)  (c1:(decide (i<(ms.length:Int)))=false):RunsW Yir Yc126 (Ys126 neg xs n cs c s ms i) (.exit 0) (Ys126 neg xs n cs c s ms i):=(RunsW.go TBD_holds 400 [.b false] [2,4,5,6,7,8,9] (ac c1 a0) (by kernel_rfl))
theorem Yrun126 (neg:Bool) (xs:List Int) (sh:Int) (n:Nat) (cs:List AV) (c i v:Int) (n1:0≤(i64.wrap (Int.tdiv sh 32))∧(i64.wrap (Int.tdiv sh 32))≤1048576) (n2:Runs Yir 125 [.sl xs.length (lm xs)] (.fresh 1 ((trimL xs).length) (lm (trimL xs)))) (hl3:RunsW Yir (.loop Yc126) (Ys126 neg xs (Int.toNat (i64.wrap (Int.tdiv sh 32))) (replA [.int .u32 0] (Int.toNat (i64.wrap (Int.tdiv sh 32)))) 0 (u64.wrap (Int.tmod sh 32)) (trimL xs) 0) (.exit 0) (Ys126 neg xs n cs c (u64.wrap (Int.tmod sh 32)) (trimL xs) i)) (n4:n+1≤1048576) (n5:Runs Yir 106 [.bool neg, .sl (n+1) (cs++([.int .u32 c]:List AV))] (bigF v)):Runs Yir 126 [.agg [.bool neg, .sl xs.length (lm xs)], .int .i64 sh] (bigF v):=Runs.of_bodyW (fn:=Yi126) (s:=(dds 4 (.bxl 50::(dds 45 (.agn (decide (v<0)) 1 ((limbs (Int.natAbs v)).length) (lm (limbs (Int.natAbs v)))::[]))))) (ex := .ret) rfl rfl (RunsW.seq (RunsW.go (t:=(.val (.agg [.bool neg, .sl xs.length (lm xs)])::(vi sh::(.box [.bool neg, .sl xs.length (lm xs)]::(dds 1 (.box [.bool false, .sl 0 []]::(dds 46 []))))))) (ex := .norm) TBD_holds 400 [] [0,1,2,4] a0 (by kernel_rfl)) (RunsW.seq (RunsW.go (t:=(.val (.agg [.bool neg, .sl xs.length (lm xs)])::(vi sh::(.box [.bool neg, .sl xs.length (lm xs)]::(dds 1 (.box [.bool false, .sl 0 []]::(.own 1 (Int.toNat (i64.wrap (Int.tdiv sh 32))) (replA [.int .u32 0] (Int.toNat (i64.wrap (Int.tdiv sh 32))))::(dds 45 [])))))))) (ex := .norm) TBD_holds 400 [] [0,1,2,4,5] (ac (show ¬ (32:Int)=0 from (by decide)) (ac n1 a0)) (by kernel_rfl)) (RunsW.seq (RunsW.go (t:=(.val (.agg [.bool neg, .sl xs.length (lm xs)])::(vi sh::(.box [.bool neg, .sl xs.length (lm xs)]::(dds 1 (.box [.bool false, .sl 0 []]::(.own 1 (Int.toNat (i64.wrap (Int.tdiv sh 32))) (replA [.int .u32 0] (Int.toNat (i64.wrap (Int.tdiv sh 32))))::(.val (.int .u32 0)::(dds 44 []))))))))) (ex := .norm) TBD_holds 400 [] [0,1,2,4,5,6] a0 (by kernel_rfl)) (RunsW.seq (RunsW.go (t:=(.val (.agg [.bool neg, .sl xs.length (lm xs)])::(vi sh::(.box [.bool neg, .sl xs.length (lm xs)]::(dds 1 (.box [.bool false, .sl 0 []]::(.own 1 (Int.toNat (i64.wrap (Int.tdiv sh 32))) (replA [.int .u32 0] (Int.toNat (i64.wrap (Int.tdiv sh 32))))::(.val (.int .u32 0)::(.val (.int .u64 (u64.wrap (Int.tmod sh 32)))::(dds 43 [])))))))))) (ex := .norm) TBD_holds 400 [] [0,1,2,4,5,6,7] (ac (show ¬ (32:Int)=0 from (by decide)) a0) (by kernel_rfl)) (RunsW.seq (RunsW.go (t:=(.val (.agg [.bool neg, .sl xs.length (lm xs)])::(vi sh::(.box [.bool neg, .sl xs.length (lm xs)]::(dds 1 (.box [.bool false, .sl 0 []]::(.own 1 (Int.toNat (i64.wrap (Int.tdiv sh 32))) (replA [.int .u32 0] (Int.toNat (i64.wrap (Int.tdiv sh 32))))::(.val (.int .u32 0)::(.val (.int .u64 (u64.wrap (Int.tmod sh 32)))::(.val (.sl ((trimL xs).length) (lm (trimL xs)))::(dds 42 []))))))))))) (ex := .norm) TBD_holds 400 [.r (.fresh 1 ((trimL xs).length) (lm (trimL xs)))] [0,1,2,4,5,6,7,8] (ac n2 a0) (by kernel_rfl)) (RunsW.seq (RunsW.seq (RunsW.go TBD_holds 400 [] [2,4,5,6,7,8,9] a0 (by kernel_rfl)) (RunsW.block hl3)) (RunsW.go TBD_holds 400 [.r (bigF v)] [4,50] (ac (show List.length ([.int .u32 c]:List AV)=1*1 from rfl) (ac n4 (ac n5 a0))) (by kernel_rfl)))))))) (by intro i e;cases e) rfl
theorem shift_step {x c:Int} {s:Nat} (hx:0≤x∧x<4294967296) (hs:s<32) (hc:0≤c∧c<2^s) :
  u64.wrap ((BitVec.ofInt (IntKind.bits .u64) (u64.wrap ((u64.wrap x)*2^(min (Int.toNat (s:Int)) (IntKind.bits .u64)))) ||| BitVec.ofInt (IntKind.bits .u64) (u64.wrap c)).toNat)=x*2^s+c
  ∧ 0≤(x*2^s+c) / 4294967296∧(x*2^s+c) / 4294967296<2^s∧(2:Int)^s≤2147483648:=by
 have hp:=pow2_pos s
 have hp2:(2:Int)^s≤2147483648:=pow2_le (show s≤31 by omega)
 have hm:x*2^s≤4294967295*2^s:=Int.mul_le_mul_of_nonneg_right (by omega) (by omega)
 have hm0:0≤x*2^s:=Int.mul_nonneg hx.1 (by omega)
 have hmin:min (Int.toNat (s:Int)) (IntKind.bits .u64)=s:=by
  rw [Int.toNat_natCast]
  show min s 64=s
  omega
 have w1:u64.wrap x=x:=by rw [wu64m];omega
 have w2:u64.wrap (x*2^s)=x*2^s:=by rw [wu64m];omega
 have w3:u64.wrap c=c:=by rw [wu64m];omega
 refine ⟨?_,by omega,by omega,hp2⟩
 rw [hmin,w1,w2,w3]
 exact or64 hx.1 (by omega) (by omega) hc
theorem Yloop126 {neg:Bool} {xs ms pre:List Int} (hu:U32 ms) {s:Nat} (hs:s<32) (hN:pre.length+ms.length≤1048576):∀ (r i:Nat) (acc:List Int) (c:Int),i+r=ms.length→acc.length=i→U32 acc→0≤c∧c<2^s →
  ∃ (zs:List Int) (c':Int),U32 zs∧zs.length=ms.length∧(0≤c'∧c'<2^s)∧valL zs+4294967296^ms.length*c'=valL acc+4294967296^i*(c+2^s*valL (ms.drop i)) ∧
   RunsW Yir (.loop Yc126) (Ys126 neg xs (pre.length+i) (lm (pre++acc)) c (s:Nat) ms (i:Nat)) (.exit 0) (Ys126 neg xs (pre.length+ms.length) (lm (pre++zs)) c' (s:Nat) ms (ms.length:Nat)):=by
 intro r
 induction r with
 | zero =>
  intro i acc c hi hl hacc hc
  have e1:valL (ms.drop i)=0:=drop_end (by omega)
  have hi':i=ms.length:=by omega
  refine ⟨acc,c,hacc,by omega,hc,by rw [e1,hi'];simp,?_⟩
  rw [hi']
  exact RunsW.loop_out (Yk126_2 neg xs _ _ c (s:Nat) ms (ms.length:Nat) (by simp)) (by intro e;cases e)
 | succ r ih =>
  intro i acc c hi hl hacc hc
  have bm:=getD_u32 hu i
  obtain ⟨w1,w2,w3,w4⟩:=shift_step bm hs hc
  have ei:i64.wrap ((i:Int)+1)=((i+1:Nat):Int):=by rw [w64 (by omega) (by omega)];omega
  have k:=Yk126_1 neg xs (pre.length+i) (lm (pre++acc)) c (s:Nat) ms (i:Nat) (by simp;omega) (by omega) (by omega) (by omega)
  have wd:u32.wrap ((ms.getD i 0*2^s+c) / 4294967296)=(ms.getD i 0*2^s+c) / 4294967296:=by rw [wu32];omega
  simp only [Int.toNat_natCast i,w1,sr32,wd,wu32 (ms.getD i 0*2^s+c),ei,lm_snoc,List.append_assoc] at k
  obtain ⟨zs,c',q1,q2,q3,q4,q5⟩:=ih (i+1) (acc++[(ms.getD i 0*2^s+c) % 4294967296]) ((ms.getD i 0*2^s+c) / 4294967296) (by omega) (by simp [hl]) (u32_snoc hacc (by omega)) ⟨w2,w3⟩
  refine ⟨zs,c',q1,q2,q3,?_,RunsW.loop k q5⟩
  rw [q4,valL_snoc,hl,drop_val ms i,Int.pow_succ]
  have hd:=Int.emod_add_mul_ediv (ms.getD i 0*2^s+c) 4294967296
  generalize (ms.getD i 0*2^s+c) % 4294967296=m at *
  generalize (ms.getD i 0*2^s+c) / 4294967296=d at *
  generalize (4294967296:Int)^i=p at *
  generalize valL (ms.drop (i+1))=X at *
  generalize (2:Int)^s=T at *
  generalize ms.getD i 0=y at *
  have:c+T*(y+4294967296*X)=m+4294967296*(d+T*X):=by
   have:c+T*(y+4294967296*X)=(y*T+c)+4294967296*(T*X):=by grind
   omega
  rw [this]
  grind
theorem rv_scale {neg:Bool} {xs ys:List Int} {t:Int} (h:valL ys=t*valL xs):rv neg ys=rv neg xs*t:=by
 unfold rv
 rw [h]
 generalize valL xs=X
 cases neg <;> simp <;> grind
theorem rup_run {neg:Bool} {xs:List Int} (hu:U32 xs) (n:Nat) (hN:n / 32+xs.length+1≤1048576):Runs Yir 126 [.agg [.bool neg, .sl xs.length (lm xs)], .int .i64 (n:Nat)] (bigF (rv neg xs*2^n)):=by
 have t1:=trim_len xs
 have e1:i64.wrap (Int.tdiv (n:Int) 32)=((n / 32:Nat):Int):=by
  rw [Int.tdiv_eq_ediv_of_nonneg (by omega),w64 (by omega) (by omega)];omega
 have e2:u64.wrap (Int.tmod (n:Int) 32)=((n % 32:Nat):Int):=by
  rw [Int.tmod_eq_emod_of_nonneg (by omega),wu64m];omega
 obtain ⟨zs,c',q1,q2,q3,q4,q5⟩:=Yloop126 (neg:=neg) (xs:=xs) (pre:=List.replicate (n / 32) 0) (trim_u32 hu) (s:=n % 32) (by omega) (by simp;omega) (trimL xs).length 0 [] 0 (by omega) rfl (fun x hx=>by cases hx) ⟨by omega,pow2_pos _⟩
 have w4:(2:Int)^(n % 32)≤2147483648:=pow2_le (show n % 32≤31 by omega)
 simp only [List.length_replicate,List.append_nil,Nat.add_zero,valL,Int.pow_zero,List.drop_zero,Int.one_mul,Int.zero_add] at q4 q5
 have huz:U32 (List.replicate (n / 32) 0++zs++[c']):=by
  refine u32_snoc ?_ (by omega)
  intro x hx
  rcases List.mem_append.1 hx with g | g
  ·exact u32_zeros _ x g
  ·exact q1 x g
 have hlen:(List.replicate (n / 32) 0++zs++[c']).length=n / 32+(trimL xs).length+1:=by simp [q2];omega
 have hk:=mk1_run (neg:=neg) huz (by omega)
 have hval:valL (List.replicate (n / 32) 0++zs++[c'])=2^n*valL xs:=by
  rw [valL_snoc,valL_append,valL_zeros,pow2_split n,List.length_append,List.length_replicate,Int.pow_add,q2]
  rw [trimL_val] at q4
  generalize (4294967296:Int)^(n / 32)=p at *
  generalize (4294967296:Int)^(trimL xs).length=q at *
  generalize (2:Int)^(n % 32)=T at *
  generalize valL xs=X at *
  generalize valL zs=Z at *
  grind
 rw [rv_scale hval,hlen] at hk
 refine Yrun126 neg xs (n:Nat) (n / 32+(trimL xs).length) (lm (List.replicate (n / 32) 0++zs)) c' ((trimL xs).length:Nat) _ (by rw [e1];omega) (mag_run (by omega)) (by rw [e1,e2,Int.toNat_natCast,repl_lim];exact q5) (by omega) (by rw [lm_snoc];exact hk)
def TBE:Table:=TBD
theorem TBE_holds:THolds Yir TBE:=TBD_holds
end Go.Proofs.Ythnnfemologhfaa

namespace Go.Proofs.Ythnnfemologhfaa
open Go.IntKind (i64 u64 u32)
open Go.Ai
set_option maxRecDepth 100000
def TQ0:Table:=[]
theorem TQ0_holds:THolds Yir TQ0:=THolds.nil _
def Ys122 (neg:Bool) (N:Nat) (cs:List AV) (n:Int):State:=(dds 1 (.box [.bool neg, .sl N cs]::(.val (.bool false)::(.own 1 0 []::(.val (.int .i64 n)::(dds 26 []))))))
theorem Yk122_1 (neg:Bool) (N:Nat) (cs:List AV) (n:Int) (x:Int) (c1:(decide (n>0))=true) (c2:(x==0)=true) (n1:0≤(i64.wrap (n-1))∧(i64.wrap (n-1))<(N:Int)) (n2:takeA (List.drop (Int.toNat (i64.wrap (n-1))*1) cs) 0 1 true=some (.int .u32 x)):RunsW Yir Yc122 (Ys122 neg N cs n) .norm (Ys122 neg N cs (i64.wrap (n-1))):=RunsW.script (ps:=[(decide (n>0))=true,0≤(i64.wrap (n-1))∧(i64.wrap (n-1))<(N:Int),takeA (List.drop (Int.toNat (i64.wrap (n-1))*1) cs) 0 1 true=some (.int .u32 x),(x==0)=true]) TQ0_holds 300 [.b true, .v (.int .u32 x), .b true] [1,2,3,4] (by kernel_rfl) ⟨c1,n1,n2,c2,trivial⟩
theorem Yk122_2 (neg:Bool) (N:Nat) (cs:List AV) (n:Int) (x:Int) (c1:(decide (n>0))=true) (c2:(x==0)=false) (n1:0≤(i64.wrap (n-1))∧(i64.wrap (n-1))<(N:Int)) (n2:takeA (List.drop (Int.toNat (i64.wrap (n-1))*1) cs) 0 1 true=some (.int .u32 x)):RunsW Yir Yc122 (Ys122 neg N cs n) (.exit 0) (Ys122 neg N cs n):=RunsW.script (ps:=[(decide (n>0))=true,0≤(i64.wrap (n-1))∧(i64.wrap (n-1))<(N:Int),takeA (List.drop (Int.toNat (i64.wrap (n-1))*1) cs) 0 1 true=some (.int .u32 x),(x==0)=false]) TQ0_holds 300 [.b true, .v (.int .u32 x), .b false] [1,2,3,4] (by kernel_rfl) ⟨c1,n1,n2,c2,trivial⟩
theorem Yk122_3 (neg:Bool) (N:Nat) (cs:List AV) (n:Int) (c1:(decide (n>0))=false):RunsW Yir Yc122 (Ys122 neg N cs n) (.exit 0) (Ys122 neg N cs n):=RunsW.script (ps:=[(decide (n>0))=false,false=false]) TQ0_holds 300 [.b false, .b false] [1,2,3,4] (by kernel_rfl) ⟨c1,rfl,trivial⟩
theorem Yloop122 (neg:Bool) (xs:List Int) (hN:xs.length≤1048576):∀ m,m≤xs.length→RunsW Yir (.loop Yc122) (Ys122 neg xs.length (lm xs) (m:Int)) (.exit 0) (Ys122 neg xs.length (lm xs) ((topN xs m:Nat):Int)):=by
 intro m
 induction m with
 | zero =>
  intro _
  exact RunsW.loop_out (Yk122_3 neg xs.length (lm xs) ((0:Nat):Int) (by simp)) (by intro e;cases e)
 | succ m ih =>
  intro hm
  have e1:i64.wrap (((m+1:Nat):Int)-1)=(m:Int):=by rw [w64 (by omega) (by omega)];omega
  have hx:=take_lim (xs:=xs) (i:=m) (by omega)
  simp only [topN]
  by_cases h0:xs.getD m 0=0
  ·rw [if_pos h0]
   have h1:=Yk122_1 neg xs.length (lm xs) ((m+1:Nat):Int) (xs.getD m 0) (by simp) (by rw [h0];rfl) (by rw [e1];omega) (by rw [e1,Int.toNat_natCast];exact hx)
   rw [e1] at h1
   exact RunsW.loop h1 (ih (by omega))
  ·rw [if_neg h0]
   exact RunsW.loop_out (Yk122_2 neg xs.length (lm xs) ((m+1:Nat):Int) (xs.getD m 0) (by simp) (by simpa using h0) (by rw [e1];omega) (by rw [e1,Int.toNat_natCast];exact hx)) (by intro e;cases e)
theorem Yrun122_true (xs:List Int) (hl:RunsW Yir (.loop Yc122) (Ys122 true xs.length (lm xs) (xs.length:Int)) (.exit 0) (Ys122 true xs.length (lm xs) ((topN xs xs.length:Nat):Int))) (hsc:0≤(Int.toNat ((topN xs xs.length:Nat):Int))∧(Int.toNat ((topN xs xs.length:Nat):Int))≤xs.length∧xs.length≤xs.length∧(false=true→true=true)):Runs Yir 122 [.agg [.bool true, .sl xs.length (lm xs)]] (.tup [.bool (decide (((topN xs xs.length:Nat):Int)>0)), .sl ((Int.toNat ((topN xs xs.length:Nat):Int))-0) (List.take (((Int.toNat ((topN xs xs.length:Nat):Int))-0)*1) (List.drop (0*1) (lm xs)))]):=Runs.of_bodyW (fn:=Yi122) (s:=(dds 1 (.box [.bool true, .sl xs.length (lm xs)]::(.val (.bool (decide (((topN xs xs.length:Nat):Int)>0)))::(.val (.sl ((Int.toNat ((topN xs xs.length:Nat):Int))-0) (List.take (((Int.toNat ((topN xs xs.length:Nat):Int))-0)*1) (List.drop (0*1) (lm xs))))::(.val (.int .i64 ((topN xs xs.length:Nat):Int))::(dds 16 (.ptr 1 0::(.val (.bool true)::(.val (.bool true)::(.val (.int .i64 ((topN xs xs.length:Nat):Int))::(.val (.bool (decide (((topN xs xs.length:Nat):Int)>0)))::(.val (.bool (decide (((topN xs xs.length:Nat):Int)>0)))::(.ptr 1 1::(.val (.sl xs.length (lm xs))::(.val (.int .i64 ((topN xs xs.length:Nat):Int))::(.val (.sl ((Int.toNat ((topN xs xs.length:Nat):Int))-0) (List.take (((Int.toNat ((topN xs xs.length:Nat):Int))-0)*1) (List.drop (0*1) (lm xs))))::[]))))))))))))))))) (ex := .ret) rfl rfl (RunsW.seq (RunsW.script (t:=(.val (.agg [.bool true, .sl xs.length (lm xs)])::(.box [.bool true, .sl xs.length (lm xs)]::(.val (.bool false)::(.own 1 0 []::(dds 27 [])))))) (ex := .norm) (ps:=[]) TQ0_holds 300 [] [0,1,2,3] (by kernel_rfl) trivial) (RunsW.seq (RunsW.script (t:=(dds 1 (.box [.bool true, .sl xs.length (lm xs)]::(.val (.bool false)::(.own 1 0 []::(vi (xs.length:Int)::(dds 26 []))))))) (ex := .norm) (ps:=[]) TQ0_holds 300 [] [1,2,3,4] (by kernel_rfl) trivial) (RunsW.seq (RunsW.block hl) (RunsW.script (t:=(dds 1 (.box [.bool true, .sl xs.length (lm xs)]::(.val (.bool (decide (((topN xs xs.length:Nat):Int)>0)))::(.val (.sl ((Int.toNat ((topN xs xs.length:Nat):Int))-0) (List.take (((Int.toNat ((topN xs xs.length:Nat):Int))-0)*1) (List.drop (0*1) (lm xs))))::(vi ((topN xs xs.length:Nat):Int)::(dds 16 (.ptr 1 0::(.val (.bool true)::(.val (.bool true)::(vi ((topN xs xs.length:Nat):Int)::(.val (.bool (decide (((topN xs xs.length:Nat):Int)>0)))::(.val (.bool (decide (((topN xs xs.length:Nat):Int)>0)))::(.ptr 1 1::(vl xs::(vi ((topN xs xs.length:Nat):Int)::(.val (.sl ((Int.toNat ((topN xs xs.length:Nat):Int))-0) (List.take (((Int.toNat ((topN xs xs.length:Nat):Int))-0)*1) (List.drop (0*1) (lm xs))))::[]))))))))))))))))) (ex := .ret) (ps:=[true=true,0≤((topN xs xs.length:Nat):Int),0≤(Int.toNat ((topN xs xs.length:Nat):Int))∧(Int.toNat ((topN xs xs.length:Nat):Int))≤xs.length∧xs.length≤xs.length∧(false=true→true=true)]) TQ0_holds 300 [.b true] [1,2,3,4,21,22,23,24,25,26,27,28,29,30] (by kernel_rfl) ⟨rfl,(Int.natCast_nonneg _),hsc,trivial⟩)))) (by intro i e;cases e) rfl
theorem Yrun122_false (xs:List Int) (hl:RunsW Yir (.loop Yc122) (Ys122 false xs.length (lm xs) (xs.length:Int)) (.exit 0) (Ys122 false xs.length (lm xs) ((topN xs xs.length:Nat):Int))) (hsc:0≤(Int.toNat ((topN xs xs.length:Nat):Int))∧(Int.toNat ((topN xs xs.length:Nat):Int))≤xs.length∧xs.length≤xs.length∧(false=true→true=true)):Runs Yir 122 [.agg [.bool false, .sl xs.length (lm xs)]] (.tup [.bool false, .sl ((Int.toNat ((topN xs xs.length:Nat):Int))-0) (List.take (((Int.toNat ((topN xs xs.length:Nat):Int))-0)*1) (List.drop (0*1) (lm xs)))]):=Runs.of_bodyW (fn:=Yi122) (s:=(dds 1 (.box [.bool false, .sl xs.length (lm xs)]::(.val (.bool false)::(.val (.sl ((Int.toNat ((topN xs xs.length:Nat):Int))-0) (List.take (((Int.toNat ((topN xs xs.length:Nat):Int))-0)*1) (List.drop (0*1) (lm xs))))::(.val (.int .i64 ((topN xs xs.length:Nat):Int))::(dds 16 (.ptr 1 0::(.val (.bool false)::(.val (.bool false)::(.val (.undef)::(.val (.undef)::(.val (.bool false)::(.ptr 1 1::(.val (.sl xs.length (lm xs))::(.val (.int .i64 ((topN xs xs.length:Nat):Int))::(.val (.sl ((Int.toNat ((topN xs xs.length:Nat):Int))-0) (List.take (((Int.toNat ((topN xs xs.length:Nat):Int))-0)*1) (List.drop (0*1) (lm xs))))::[]))))))))))))))))) (ex := .ret) rfl rfl (RunsW.seq (RunsW.script (t:=(.val (.agg [.bool false, .sl xs.length (lm xs)])::(.box [.bool false, .sl xs.length (lm xs)]::(.val (.bool false)::(.own 1 0 []::(dds 27 [])))))) (ex := .norm) (ps:=[]) TQ0_holds 300 [] [0,1,2,3] (by kernel_rfl) trivial) (RunsW.seq (RunsW.script (t:=(dds 1 (.box [.bool false, .sl xs.length (lm xs)]::(.val (.bool false)::(.own 1 0 []::(vi (xs.length:Int)::(dds 26 []))))))) (ex := .norm) (ps:=[]) TQ0_holds 300 [] [1,2,3,4] (by kernel_rfl) trivial) (RunsW.seq (RunsW.block hl) (RunsW.script (t:=(dds 1 (.box [.bool false, .sl xs.length (lm xs)]::(.val (.bool false)::(.val (.sl ((Int.toNat ((topN xs xs.length:Nat):Int))-0) (List.take (((Int.toNat ((topN xs xs.length:Nat):Int))-0)*1) (List.drop (0*1) (lm xs))))::(vi ((topN xs xs.length:Nat):Int)::(dds 16 (.ptr 1 0::(.val (.bool false)::(.val (.bool false)::(.val (.undef)::(.val (.undef)::(.val (.bool false)::(.ptr 1 1::(vl xs::(vi ((topN xs xs.length:Nat):Int)::(.val (.sl ((Int.toNat ((topN xs xs.length:Nat):Int))-0) (List.take (((Int.toNat ((topN xs xs.length:Nat):Int))-0)*1) (List.drop (0*1) (lm xs))))::[]))))))))))))))))) (ex := .ret) (ps:=[false=false,0≤((topN xs xs.length:Nat):Int),0≤(Int.toNat ((topN xs xs.length:Nat):Int))∧(Int.toNat ((topN xs xs.length:Nat):Int))≤xs.length∧xs.length≤xs.length∧(false=true→true=true)]) TQ0_holds 300 [.b false] [1,2,3,4,21,22,23,24,25,26,27,28,29,30] (by kernel_rfl) ⟨rfl,(Int.natCast_nonneg _),hsc,trivial⟩)))) (by intro i e;cases e) rfl
theorem topN_sl (xs:List Int):(Int.toNat ((topN xs xs.length:Nat):Int)-0)=(trimL xs).length∧(List.take ((Int.toNat ((topN xs xs.length:Nat):Int)-0)*1) (List.drop (0*1) (lm xs)))=lm (trimL xs)∧(0≤(Int.toNat ((topN xs xs.length:Nat):Int))∧(Int.toNat ((topN xs xs.length:Nat):Int))≤xs.length∧xs.length≤xs.length∧(false=true→true=true)):=by
 have hle:=topN_le xs xs.length
 rw [Int.toNat_natCast]
 refine ⟨by simp [trimL];omega,by simp [lm,trimL,List.map_take],by omega,hle,Nat.le_refl _,fun h=>by cases h⟩
theorem limbs_run {neg:Bool} {xs:List Int} (hu:U32 xs) (hN:xs.length≤1048576):Runs Yir 122 [.agg [.bool neg, .sl xs.length (lm xs)]]
  (.tup [.bool (decide (rv neg xs<0)), .sl (limbs (rv neg xs).natAbs).length (lm (limbs (rv neg xs).natAbs))]):=by
 obtain ⟨e1,e2,e3⟩:=topN_sl xs
 have ht:=trimL_rv (neg:=neg) hu
 have hn:=neg_rv (neg:=neg) hu
 have hlen:(trimL xs).length=topN xs xs.length:=by rw [← e1,Int.toNat_natCast];rfl
 cases neg with
 | true =>
  have h:=Yrun122_true xs (Yloop122 true xs hN xs.length (Nat.le_refl _)) e3
  rw [e2,e1,ht] at h
  have e4:decide (((topN xs xs.length:Nat):Int)>0)=decide (rv true xs<0):=by
   rw [← hn,Bool.true_and,← ht,hlen,decide_eq_decide];omega
  rw [e4] at h
  exact h
 | false =>
  have h:=Yrun122_false xs (Yloop122 false xs hN xs.length (Nat.le_refl _)) e3
  rw [e2,e1,ht] at h
  rw [Bool.false_and] at hn
  rw [← hn]
  exact h
def Ys133 (neg:Bool) (N:Nat) (cs:List AV) (n:Int):State:=(.val (.bool neg)::(.val (.sl N cs)::(dds 2 (.box [.bool false, .sl 0 []]::(.val (.int .i64 n)::(dds 23 []))))))
theorem Yk133_1 (neg:Bool) (N:Nat) (cs:List AV) (n:Int) (x:Int) (c1:(decide (n>0))=true) (c2:(x==0)=true) (n1:0≤(i64.wrap (n-1))∧(i64.wrap (n-1))<(N:Int)) (n2:takeA (List.drop (Int.toNat (i64.wrap (n-1))*1) cs) 0 1 true=some (.int .u32 x)):RunsW Yir Yc133 (Ys133 neg N cs n) .norm (Ys133 neg N cs (i64.wrap (n-1))):=RunsW.script (ps:=[(decide (n>0))=true,0≤(i64.wrap (n-1))∧(i64.wrap (n-1))<(N:Int),takeA (List.drop (Int.toNat (i64.wrap (n-1))*1) cs) 0 1 true=some (.int .u32 x),(x==0)=true]) TQ0_holds 300 [.b true, .v (.int .u32 x), .b true] [0,1,4,5] (by kernel_rfl) ⟨c1,n1,n2,c2,trivial⟩
theorem Yk133_2 (neg:Bool) (N:Nat) (cs:List AV) (n:Int) (x:Int) (c1:(decide (n>0))=true) (c2:(x==0)=false) (n1:0≤(i64.wrap (n-1))∧(i64.wrap (n-1))<(N:Int)) (n2:takeA (List.drop (Int.toNat (i64.wrap (n-1))*1) cs) 0 1 true=some (.int .u32 x)):RunsW Yir Yc133 (Ys133 neg N cs n) (.exit 0) (Ys133 neg N cs n):=RunsW.script (ps:=[(decide (n>0))=true,0≤(i64.wrap (n-1))∧(i64.wrap (n-1))<(N:Int),takeA (List.drop (Int.toNat (i64.wrap (n-1))*1) cs) 0 1 true=some (.int .u32 x),(x==0)=false]) TQ0_holds 300 [.b true, .v (.int .u32 x), .b false] [0,1,4,5] (by kernel_rfl) ⟨c1,n1,n2,c2,trivial⟩
theorem Yk133_3 (neg:Bool) (N:Nat) (cs:List AV) (n:Int) (c1:(decide (n>0))=false):RunsW Yir Yc133 (Ys133 neg N cs n) (.exit 0) (Ys133 neg N cs n):=RunsW.script (ps:=[(decide (n>0))=false,false=false]) TQ0_holds 300 [.b false, .b false] [0,1,4,5] (by kernel_rfl) ⟨c1,rfl,trivial⟩
theorem Yloop133 (neg:Bool) (xs:List Int) (hN:xs.length≤1048576):∀ m,m≤xs.length→RunsW Yir (.loop Yc133) (Ys133 neg xs.length (lm xs) (m:Int)) (.exit 0) (Ys133 neg xs.length (lm xs) ((topN xs m:Nat):Int)):=by
 intro m
 induction m with
 | zero =>
  intro _
  exact RunsW.loop_out (Yk133_3 neg xs.length (lm xs) ((0:Nat):Int) (by simp)) (by intro e;cases e)
 | succ m ih =>
  intro hm
  have e1:i64.wrap (((m+1:Nat):Int)-1)=(m:Int):=by rw [w64 (by omega) (by omega)];omega
  have hx:=take_lim (xs:=xs) (i:=m) (by omega)
  simp only [topN]
  by_cases h0:xs.getD m 0=0
  ·rw [if_pos h0]
   have h1:=Yk133_1 neg xs.length (lm xs) ((m+1:Nat):Int) (xs.getD m 0) (by simp) (by rw [h0];rfl) (by rw [e1];omega) (by rw [e1,Int.toNat_natCast];exact hx)
   rw [e1] at h1
   exact RunsW.loop h1 (ih (by omega))
  ·rw [if_neg h0]
   exact RunsW.loop_out (Yk133_2 neg xs.length (lm xs) ((m+1:Nat):Int) (xs.getD m 0) (by simp) (by simpa using h0) (by rw [e1];omega) (by rw [e1,Int.toNat_natCast];exact hx)) (by intro e;cases e)
theorem Yrun133_z (neg:Bool) (xs:List Int) (hz:(((topN xs xs.length:Nat):Int)==0)=true) (hl:RunsW Yir (.loop Yc133) (Ys133 neg xs.length (lm xs) (xs.length:Int)) (.exit 0) (Ys133 neg xs.length (lm xs) ((topN xs xs.length:Nat):Int))):Runs Yir 133 [.bool neg, .sl xs.length (lm xs)] (.agg [.bool false, .sl 0 []]):=Runs.of_bodyW (fn:=Yi133) (s:=(.val (.bool neg)::(.val (.sl xs.length (lm xs))::(dds 2 (.box [.bool false, .sl 0 []]::(.val (.int .i64 ((topN xs xs.length:Nat):Int))::(dds 14 (.val (.int .i64 ((topN xs xs.length:Nat):Int))::(.val (.bool (((topN xs xs.length:Nat):Int)==0))::(.val (.agg [.bool false, .sl 0 []])::(dds 6 []))))))))))) (ex := .ret) rfl rfl (RunsW.seq (RunsW.script (t:=(.val (.bool neg)::(vl xs::(dds 2 (.box [.bool false, .sl 0 []]::(dds 24 [])))))) (ex := .norm) (ps:=[]) TQ0_holds 300 [] [0,1,4] (by kernel_rfl) trivial) (RunsW.seq (RunsW.script (t:=(.val (.bool neg)::(vl xs::(dds 2 (.box [.bool false, .sl 0 []]::(vi (xs.length:Int)::(dds 23 []))))))) (ex := .norm) (ps:=[]) TQ0_holds 300 [] [0,1,4,5] (by kernel_rfl) trivial) (RunsW.seq (RunsW.block hl) (RunsW.script (t:=(.val (.bool neg)::(vl xs::(dds 2 (.box [.bool false, .sl 0 []]::(vi ((topN xs xs.length:Nat):Int)::(dds 14 (vi ((topN xs xs.length:Nat):Int)::(.val (.bool (((topN xs xs.length:Nat):Int)==0))::(.val (.agg [.bool false, .sl 0 []])::(dds 6 []))))))))))) (ex := .ret) (ps:=[(((topN xs xs.length:Nat):Int)==0)=true]) TQ0_holds 300 [.b true] [0,1,4,5,20,21,22] (by kernel_rfl) ⟨hz,trivial⟩)))) (by intro i e;cases e) rfl
theorem Yrun133_p (neg:Bool) (xs:List Int) (hz:(((topN xs xs.length:Nat):Int)==0)=false) (hl:RunsW Yir (.loop Yc133) (Ys133 neg xs.length (lm xs) (xs.length:Int)) (.exit 0) (Ys133 neg xs.length (lm xs) ((topN xs xs.length:Nat):Int))) (hsc:0≤(Int.toNat ((topN xs xs.length:Nat):Int))∧(Int.toNat ((topN xs xs.length:Nat):Int))≤(Int.toNat ((topN xs xs.length:Nat):Int))∧(Int.toNat ((topN xs xs.length:Nat):Int))≤xs.length∧(true=true→true=true)):Runs Yir 133 [.bool neg, .sl xs.length (lm xs)] (.agg [.bool neg, .sl ((Int.toNat ((topN xs xs.length:Nat):Int))-0) (List.take (((Int.toNat ((topN xs xs.length:Nat):Int))-0)*1) (List.drop (0*1) (lm xs)))]):=Runs.of_bodyW (fn:=Yi133) (s:=(.val (.bool neg)::(.val (.sl xs.length (lm xs))::(dds 2 (.box [.bool neg, .sl ((Int.toNat ((topN xs xs.length:Nat):Int))-0) (List.take (((Int.toNat ((topN xs xs.length:Nat):Int))-0)*1) (List.drop (0*1) (lm xs)))]::(.val (.int .i64 ((topN xs xs.length:Nat):Int))::(dds 14 (.val (.int .i64 ((topN xs xs.length:Nat):Int))::(.val (.bool (((topN xs xs.length:Nat):Int)==0))::(dds 1 (.val (.bool neg)::(.val (.sl xs.length (lm xs))::(.val (.int .i64 ((topN xs xs.length:Nat):Int))::(.val (.int .i64 ((topN xs xs.length:Nat):Int))::(.val (.sl ((Int.toNat ((topN xs xs.length:Nat):Int))-0) (List.take (((Int.toNat ((topN xs xs.length:Nat):Int))-0)*1) (List.drop (0*1) (lm xs))))::(.val (.agg [.bool neg, .sl ((Int.toNat ((topN xs xs.length:Nat):Int))-0) (List.take (((Int.toNat ((topN xs xs.length:Nat):Int))-0)*1) (List.drop (0*1) (lm xs)))])::[])))))))))))))))) (ex := .ret) rfl rfl (RunsW.seq (RunsW.script (t:=(.val (.bool neg)::(vl xs::(dds 2 (.box [.bool false, .sl 0 []]::(dds 24 [])))))) (ex := .norm) (ps:=[]) TQ0_holds 300 [] [0,1,4] (by kernel_rfl) trivial) (RunsW.seq (RunsW.script (t:=(.val (.bool neg)::(vl xs::(dds 2 (.box [.bool false, .sl 0 []]::(vi (xs.length:Int)::(dds 23 []))))))) (ex := .norm) (ps:=[]) TQ0_holds 300 [] [0,1,4,5] (by kernel_rfl) trivial) (RunsW.seq (RunsW.block hl) (RunsW.script (t:=(.val (.bool neg)::(vl xs::(dds 2 (.box [.bool neg, .sl ((Int.toNat ((topN xs xs.length:Nat):Int))-0) (List.take (((Int.toNat ((topN xs xs.length:Nat):Int))-0)*1) (List.drop (0*1) (lm xs)))]::(vi ((topN xs xs.length:Nat):Int)::(dds 14 (vi ((topN xs xs.length:Nat):Int)::(.val (.bool (((topN xs xs.length:Nat):Int)==0))::(dds 1 (.val (.bool neg)::(vl xs::(vi ((topN xs xs.length:Nat):Int)::(vi ((topN xs xs.length:Nat):Int)::(.val (.sl ((Int.toNat ((topN xs xs.length:Nat):Int))-0) (List.take (((Int.toNat ((topN xs xs.length:Nat):Int))-0)*1) (List.drop (0*1) (lm xs))))::(.val (.agg [.bool neg, .sl ((Int.toNat ((topN xs xs.length:Nat):Int))-0) (List.take (((Int.toNat ((topN xs xs.length:Nat):Int))-0)*1) (List.drop (0*1) (lm xs)))])::[])))))))))))))))) (ex := .ret) (ps:=[(((topN xs xs.length:Nat):Int)==0)=false,0≤((topN xs xs.length:Nat):Int),0≤((topN xs xs.length:Nat):Int),0≤(Int.toNat ((topN xs xs.length:Nat):Int))∧(Int.toNat ((topN xs xs.length:Nat):Int))≤(Int.toNat ((topN xs xs.length:Nat):Int))∧(Int.toNat ((topN xs xs.length:Nat):Int))≤xs.length∧(true=true→true=true)]) TQ0_holds 300 [.b false] [0,1,4,5,20,21,23,24,25,26,27,28] (by kernel_rfl) ⟨hz,(Int.natCast_nonneg _),(Int.natCast_nonneg _),hsc,trivial⟩)))) (by intro i e;cases e) rfl
theorem made_run {neg:Bool} {xs:List Int} (hu:U32 xs) (hN:xs.length≤1048576):Runs Yir 133 [.bool neg, .sl xs.length (lm xs)] (bigAV (rv neg xs)):=by
 obtain ⟨e1,e2,e3⟩:=topN_sl xs
 have ht:=trimL_rv (neg:=neg) hu
 have hn:=neg_rv (neg:=neg) hu
 have hlen:(trimL xs).length=topN xs xs.length:=by rw [← e1,Int.toNat_natCast];rfl
 have hl:=Yloop133 neg xs hN xs.length (Nat.le_refl _)
 by_cases h0:topN xs xs.length=0
 ·have h:=Yrun133_z neg xs (by rw [h0];rfl) hl
  have hz:(limbs (rv neg xs).natAbs).length=0:=by rw [← ht,hlen,h0]
  have hv:rv neg xs=0:=by have:=(limbs_zero_len _).1 hz;omega
  rw [hv]
  exact h
 ·have h:=Yrun133_p neg xs (by rw [beq_eq_false_iff_ne];omega) hl ⟨e3.1,Nat.le_refl _,e3.2.1,fun _=>rfl⟩
  rw [e2,e1,ht] at h
  have hp:decide (0<(limbs (rv neg xs).natAbs).length)=true:=by rw [← ht,hlen];simp;omega
  rw [hp,Bool.and_true] at hn
  rw [bigAV,← hn]
  exact h
theorem Yrun132 (neg:Bool) (xs:List Int) (a r:Int) (h1:Runs Yir 122 [.agg [.bool neg, .sl xs.length (lm xs)]] (.tup [.bool (decide (a<0)), .sl ((limbs (Int.natAbs a)).length) (lm (limbs (Int.natAbs a)))])) (h2:Runs Yir 133 [.bool (decide (a<0)), .sl (limbs (Int.natAbs a)).length (lm (limbs (Int.natAbs a)))] (.agg [.bool (decide (r<0)), .sl ((limbs (Int.natAbs r)).length) (lm (limbs (Int.natAbs r)))])) (hal:List.length (lm (limbs (Int.natAbs a)))=(limbs (Int.natAbs a)).length*1) (han:(limbs (Int.natAbs a)).length≤1048576):Runs Yir 132 [.agg [.bool neg, .sl xs.length (lm xs)]] (.agg [.bool (decide (r<0)), .sl ((limbs (Int.natAbs r)).length) (lm (limbs (Int.natAbs r)))]):=Runs.script (ps:=[Runs Yir 122 [.agg [.bool neg, .sl xs.length (lm xs)]] (.tup [.bool (decide (a<0)), .sl ((limbs (Int.natAbs a)).length) (lm (limbs (Int.natAbs a)))]),List.length (lm (limbs (Int.natAbs a)))=((limbs (Int.natAbs a)).length)*1,((limbs (Int.natAbs a)).length)≤1048576,Runs Yir 133 [.bool (decide (a<0)), .sl ((limbs (Int.natAbs a)).length) (lm (limbs (Int.natAbs a)))] (.agg [.bool (decide (r<0)), .sl ((limbs (Int.natAbs r)).length) (lm (limbs (Int.natAbs r)))])]) TQ0_holds rfl 300 rfl [.r (.tup [.bool (decide (a<0)), .sl ((limbs (Int.natAbs a)).length) (lm (limbs (Int.natAbs a)))]), .r (.agg [.bool (decide (r<0)), .sl ((limbs (Int.natAbs r)).length) (lm (limbs (Int.natAbs r)))])] (by kernel_rfl) ⟨h1,hal,han,h2,trivial⟩
theorem lim_al (xs:List Int):List.length (lm xs)=xs.length*1:=by rw [lim_length,Nat.mul_one]
theorem wtrim_run {neg:Bool} {xs:List Int} (hu:U32 xs) (hN:xs.length≤1048576):Runs Yir 132 [.agg [.bool neg, .sl xs.length (lm xs)]] (bigAV (rv neg xs)):=by
 have hl:(limbs (rv neg xs).natAbs).length≤1048576:=Nat.le_trans (rv_len hu) hN
 have h2:=made_run (neg:=decide (rv neg xs<0)) (big_u32 (rv neg xs).natAbs) hl
 rw [rv_big] at h2
 exact Yrun132 neg xs (rv neg xs) (rv neg xs) (limbs_run hu hN) h2 (lim_al _) hl
def TWA:Table:=TQ0
theorem TWA_holds:THolds Yir TWA:=TQ0_holds
end Go.Proofs.Ythnnfemologhfaa
