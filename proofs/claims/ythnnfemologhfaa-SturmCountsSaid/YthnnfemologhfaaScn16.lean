/- Texts of the proof of SturmCounts, packed by pack.py: part 16 of 19. -/
import Derived.KernelRfl
import Derived.Test.YthnnfemologhfaaScn15
namespace Go.Proofs.Ythnnfemologhfaa
open Go.IntKind (i64 u64 u32)
open Go.Ai
set_option maxRecDepth 100000
def Zfn (x:Int):Bool:=decide (256<(Zb x.natAbs).length)
def X5 (p:List Int):Bool:=decide (17<(Zc p).length) || (Zc p).any Zfn
theorem Zfq {p:List Int} {f:Int→Bool} (h:p.any f=false) (i:Nat) (hi:i<p.length):f (p.getD i 0)=false:=by
 rw[List.any_eq_false] at h
 rw[List.getD_eq_getElem?_getD,List.getElem?_eq_getElem hi]
 simpa using h _ (List.getElem_mem hi)
theorem Zk7 {p:List Int} {f:Int→Bool} (h:p.any f=true):∃ i,i<p.length∧f (p.getD i 0)=true:=by
 obtain⟨x,hx,hf⟩:=List.any_eq_true.1 h
 obtain⟨i,hi,rfl⟩:=List.mem_iff_getElem.1 hx
 refine⟨i,hi,?_⟩
 rw[List.getD_eq_getElem?_getD,List.getElem?_eq_getElem hi]
 simpa using hf
section
variable {rs:List Rn} {ps:List (List Rn)} {n k:Int}
theorem Za1 (hg:∀ r∈rs,Ju 1048576 r) (hN:rs.length≤1048576) :
  (X5 (Zi rs)=false→(Zc (Zi rs)).length≤17→Za Yir (.loop A4) (Kj false ps n k rs (((Z0 (Zi rs) rs.length:Nat):Int)-1) 0) (.exit 2) (Kj false ps n k rs (((Z0 (Zi rs) rs.length:Nat):Int)-1) (Z0 (Zi rs) rs.length:Nat))) ∧
  (X5 (Zi rs)=true→(Zc (Zi rs)).length≤17→∃ j:Nat,Za Yir (.loop A4) (Kj false ps n k rs (((Z0 (Zi rs) rs.length:Nat):Int)-1) 0) .ret (Kj true ps n k rs (((Z0 (Zi rs) rs.length:Nat):Int)-1) (j:Nat))):=by
 have hle:=Wv (Zi rs) rs.length
 have hlen:(Zc (Zi rs)).length=Z0 (Zi rs) rs.length:=by rw[Ux,Zs]
 have step:∀ t:Nat,t<Z0 (Zi rs) rs.length→Zfn (Zn (rs.getD t z0))=false→Za Yir A4 (Kj false ps n k rs (((Z0 (Zi rs) rs.length:Nat):Int)-1) (t:Nat)) .norm (Kj false ps n k rs (((Z0 (Zi rs) rs.length:Nat):Int)-1) ((t+1:Nat):Int)):=by
  intro t ht hb
  have ei:i64.wrap ((t:Int)+1)=((t+1:Nat):Int):=by rw[w64 (by omega) (by omega)];omega
  obtain⟨g1,g2⟩:=Z8 hg t
  have k2:=Zth false ps n k rs (((Z0 (Zi rs) rs.length:Nat):Int)-1) (t:Nat) (((Zb (Zn (rs.getD t z0)).natAbs).length:Nat):Int) (by simp;omega) (by unfold Zfn at hb;simp only[decide_eq_false_iff_not] at hb ⊢;omega) (by omega) (by rw[Int.toNat_natCast];exact Bm g1 g2)
  rwa [ei] at k2
 refine⟨fun hl _ => ?_,fun hl h17 => ?_⟩
 ·unfold X5 at hl
  rw[Bool.or_eq_false_iff] at hl
  have h:=Za.upTo (prog:=Yir) (c:=A4) (ex := .exit 2) (fun t=>Kj false ps n k rs (((Z0 (Zi rs) rs.length:Nat):Int)-1) (t:Nat)) (Z0 (Zi rs) rs.length) (by intro e;cases e) (Ztg false ps n k rs _ _ (by simp;omega)) 0 (Nat.zero_le _) (fun t _ h2=>step t h2 (by
   have:=Zfq hl.2 t (by omega)
   rwa [Je,Q2] at this))
  exact h
 ·unfold X5 at hl
  rw[decide_eq_false (by omega),Bool.false_or] at hl
  obtain⟨i,hi,hf⟩:=Zk7 hl
  rcases Hh (fun j=>Zfn (Zn (rs.getD j z0))) (Z0 (Zi rs) rs.length) _ 0 (by rw[Nat.zero_add]) with h | ⟨j,_,h2,h3,h4⟩
  ·have:=h i (by omega) (by omega)
   rw[Je,Q2] at hf
   rw[hf] at this
   cases this
  ·obtain⟨g1,g2⟩:=Z8 hg j
   have k1:=Zti false ps n k rs (((Z0 (Zi rs) rs.length:Nat):Int)-1) (j:Nat) (((Zb (Zn (rs.getD j z0)).natAbs).length:Nat):Int) (by simp;omega) (by unfold Zfn at h3;simp only[decide_eq_true_eq] at h3 ⊢;omega) (by omega) (by rw[Int.toNat_natCast];exact Bm g1 g2)
   exact⟨j,Za.upTo (prog:=Yir) (c:=A4) (ex := .ret) (fun t=>Kj false ps n k rs (((Z0 (Zi rs) rs.length:Nat):Int)-1) (t:Nat)) j (by intro e;cases e) k1 0 (Nat.zero_le _) (fun t _ h6=>step t (by omega) (h4 t (by omega) h6))⟩
end
theorem G0 {α:Type} {l:List (List α)} {i:Nat} (h:i<l.length):l.getD i []∈l:=by
 rw[List.getD_eq_getElem?_getD,List.getElem?_eq_getElem h];exact List.getElem_mem h
theorem Zbq {ps:List (List Rn)} (hg:∀ p∈ps,(∀ r∈p,Ju 1048576 r)∧p.length≤1048576) (hN:ps.length≤1048576):Ze Yir 61 [.sl ps.length (pp ps)] (.bool (ps.any fun p=>X5 (Zi p))):=by
 have hdeg:∀ t,t<ps.length→Ze Yir 62 [.sl (ps.getD t []).length (pc (ps.getD t []))] (.int .i64 (((Z0 (Zi (ps.getD t [])) (ps.getD t []).length:Nat):Int)-1)):=fun t ht=>Fz (hg _ (G0 ht)).1 (hg _ (G0 ht)).2
 have step:∀ t:Nat,t<ps.length→X5 (Zi (ps.getD t []))=false→Za Yir Zpx (Pv false ps (ps.length:Nat) (t:Nat)) .norm (Pv false ps (ps.length:Nat) ((t+1:Nat):Int)):=by
  intro t ht hl
  have ei:i64.wrap ((t:Int)+1)=((t+1:Nat):Int):=by rw[w64 (by omega) (by omega)];omega
  obtain⟨g1,g2⟩:=hg _ (G0 ht)
  have hlen:(Zc (Zi (ps.getD t []))).length=Z0 (Zi (ps.getD t [])) (ps.getD t []).length:=by rw[Ux,Zs]
  have h17:(Zc (Zi (ps.getD t []))).length≤17:=by
   unfold X5 at hl
   rw[Bool.or_eq_false_iff,decide_eq_false_iff_not] at hl
   omega
  have k2:=Yk61_2 false ps (ps.length:Nat) (t:Nat) (((Z0 (Zi (ps.getD t [])) (ps.getD t []).length:Nat):Int)-1) _ (by simp;omega) (by rw[decide_eq_false_iff_not];omega) (by omega) (by rw[Int.toNat_natCast];exact hdeg t ht) (by rw[Int.toNat_natCast];exact (Za1 g1 g2).1 hl h17)
  rwa [ei] at k2
 rcases Hh (fun j=>X5 (Zi (ps.getD j []))) ps.length _ 0 (by rw[Nat.zero_add]) with h | ⟨j,_,h2,h3,h4⟩
 ·have hany:(ps.any fun p=>X5 (Zi p))=false:=by
   rw[List.any_eq_false]
   intro p hp
   obtain⟨i,hi,rfl⟩:=List.mem_iff_getElem.1 hp
   have:=h i (by omega) hi
   rw[List.getD_eq_getElem?_getD,List.getElem?_eq_getElem hi] at this
   simpa using this
  rw[hany]
  exact Zlt ps _ _ (Za.upTo (prog:=Yir) (c:=Zpx) (ex := .exit 0) (fun t=>Pv false ps (ps.length:Nat) (t:Nat)) ps.length (by intro e;cases e) (Yk61_3 false ps _ _ (by simp)) 0 (Nat.zero_le _) (fun t _ h6=>step t h6 (h t (by omega) h6)))
 ·have hany:(ps.any fun p=>X5 (Zi p))=true:=by
   rw[List.any_eq_true]
   exact⟨_,G0 h2,h3⟩
  rw[hany]
  obtain⟨g1,g2⟩:=hg _ (G0 h2)
  have hlen:(Zc (Zi (ps.getD j []))).length=Z0 (Zi (ps.getD j [])) (ps.getD j []).length:=by rw[Ux,Zs]
  have out:Za Yir Zpx (Pv false ps (ps.length:Nat) (j:Nat)) .ret (Pv true ps (ps.length:Nat) (j:Nat)):=by
   by_cases h17:(Zc (Zi (ps.getD j []))).length≤17
   ·obtain⟨i,hi⟩:=(Za1 (ps:=ps) (n:=(ps.length:Nat)) (k:=(j:Nat)) g1 g2).2 h3 h17
    exact Ztf false ps (ps.length:Nat) (j:Nat) (((Z0 (Zi (ps.getD j [])) (ps.getD j []).length:Nat):Int)-1) _ (by simp;omega) (by rw[decide_eq_false_iff_not];omega) (by omega) (by rw[Int.toNat_natCast];exact hdeg j h2) (by rw[Int.toNat_natCast];exact hi)
   ·exact Yk61_1 false ps (ps.length:Nat) (j:Nat) (((Z0 (Zi (ps.getD j [])) (ps.getD j []).length:Nat):Int)-1) (by simp;omega) (by rw[decide_eq_true_eq];omega) (by omega) (by rw[Int.toNat_natCast];exact hdeg j h2)
  exact Zls ps _ _ (Za.upTo (prog:=Yir) (c:=Zpx) (ex := .ret) (fun t=>Pv false ps (ps.length:Nat) (t:Nat)) j (by intro e;cases e) out 0 (Nat.zero_le _) (fun t _ h6=>step t (by omega) (h4 t (by omega) h6)))
theorem Rq {rs:List Rn} (hg:∀ r∈rs,Ju 1048576 r) (hN:rs.length≤1048576):Ze Yir 61 [.sl 1 [.sl rs.length (pc rs)]] (.bool (X5 (Zi rs))):=by
 have h:=Zbq (ps:=[rs]) (fun p hp=>by rw[List.mem_singleton.1 hp];exact⟨hg,hN⟩) (by simp)
 simpa [pp] using h
end Go.Proofs.Ythnnfemologhfaa

namespace Go.Proofs.Ythnnfemologhfaa
open Go.IntKind (i64 u64 u32)
open Go.Ai
set_option maxRecDepth 100000
theorem P4 {p:List Int} (hl:(Zc p).length≤17) (hK:Kb 256 p):X5 p=false:=by
 unfold X5
 rw[Bool.or_eq_false_iff,decide_eq_false_iff_not]
 refine⟨by omega,?_⟩
 rw[List.any_eq_false]
 intro x hx
 obtain⟨i,hi,rfl⟩:=List.mem_iff_getElem.1 (Zag hx)
 have h:=(hK i).len
 rw[List.getD_eq_getElem?_getD,List.getElem?_eq_getElem hi] at h
 unfold Zfn
 simp only[Option.getD_some] at h
 simpa using h
theorem Ek {rs:List Rn} {K:Nat} (hg:∀ r∈rs,Ju K r) (hK:K≤256) (hl:rs.length≤17):X5 (Zi rs)=false :=
 P4 (by have:=Qc (Zi rs);rw[Zs] at this;omega) ((Du (Jf hg)).mono hK)
theorem large1 {rs:List Rn} {K:Nat} (hg:∀ r∈rs,Ju K r) (hK:K≤256) (hl:rs.length≤17):Ze Yir 61 [.sl 1 [.sl rs.length (pc rs)]] (.bool false):=by
 have h:=Rq (rs:=rs) (fun r hr=>(hg r hr).mono (by omega)) (by omega)
 rwa [Ek hg hK hl] at h
end Go.Proofs.Ythnnfemologhfaa

namespace Go.Proofs.Ythnnfemologhfaa
open Go.IntKind (i64 u64 u32)
open Go.Ai
set_option maxRecDepth 100000
def Yc5:ICode := .seq (.seq (rg [oM 61 11,oM 62 1,oB 63 .lss 61 62]) (.cond (.t 63) (.skip) (.exit 0))) (.seq (.block 1 (.seq (rg [oM 67 9,oM 68 7,o1 69 (.un .neg (.t 68)),o1 70 (.bls 2 [.int .i64 0, .int .i64 0] [(0,1, .t 69),(1,1, .c (.int .i64 1))]),oC 71 26 [70],oC 72 24 [67,71],oM 66 72,o1 73 (.ext (.t 66) 0),o1 74 (.ext (.t 66) 1),oM 9 73]) (rg [oM 76 9,oM 77 8,o1 78 (.un .neg (.t 77)),o1 79 (.bls 2 [.int .i64 0, .int .i64 0] [(0,1, .t 78),(1,1, .c (.int .i64 2))]),oC 80 26 [79],oC 81 24 [76,80],oM 75 81,o1 82 (.ext (.t 75) 0),o1 83 (.ext (.t 75) 1),oM 9 82]))) (rg [oM 64 11,o1 65 (.bin .add (.t 64) (ci 1)),oM 11 65]))
end Go.Proofs.Ythnnfemologhfaa

namespace Go.Proofs.Ythnnfemologhfaa
open Go.IntKind (i64 u64 u32)
open Go.Ai
set_option maxRecDepth 100000
def Zaz (o:Bool) (ts:List Rn) (i:Int):Zk:=(dds 2 (.val (.bool o)::(.val (.sl ts.length (pc ts))::(.val (.int .i64 i)::(dds 17 [])))))
theorem Yk67_1 (o:Bool) (ts:List Rn) (i:Int) (z:Bool) (c1:(decide (i<(ts.length:Int)))=true) (c2:(z)=true) (n1:0≤i∧i<(ts.length:Int)) (n2:Ze Yir 79 [Zt (ts.getD (Int.toNat i) z0)] (.bool z)):Za Yir Zpw (Zaz o ts i) .ret (Zaz true ts i):=(Za.go Jt 400 [.b true, .v (Zt (ts.getD (Int.toNat i) z0)), .r (.bool z), .b true] [2,3,4] (ac c1 (ac n1 (ac (Qi n1) (ac n2 (ac c2 a0))))))
theorem Yk67_2 (o:Bool) (ts:List Rn) (i:Int) (z:Bool) (c1:(decide (i<(ts.length:Int)))=true) (c2:(z)=false) (n1:0≤i∧i<(ts.length:Int)) (n2:Ze Yir 79 [Zt (ts.getD (Int.toNat i) z0)] (.bool z)):Za Yir Zpw (Zaz o ts i) .norm (Zaz o ts (i64.wrap (i+1))):=(Za.go Jt 400 [.b true, .v (Zt (ts.getD (Int.toNat i) z0)), .r (.bool z), .b false] [2,3,4] (ac c1 (ac n1 (ac (Qi n1) (ac n2 (ac c2 a0))))))
theorem Yk67_3 (o:Bool) (ts:List Rn) (i:Int)  (c1:(decide (i<(ts.length:Int)))=false):Za Yir Zpw (Zaz o ts i) (.exit 0) (Zaz o ts i):=(Za.go Jt 400 [.b false] [2,3,4] (ac c1 a0))
theorem Zci (rs ts:List Rn) (c1:(decide ((i64.wrap ((ts.length:Int)-1))>16))=true) (n1:Ze Yir 43 [.sl rs.length (pc rs)] (.fresh 2 ts.length (pc ts))):Ze Yir 67 [.sl rs.length (pc rs)] (.bool true):=Ze.of_bodyW (fn:=Zxw) (s:=(dds 2 (.val (.bool true)::(dds 19 [])))) (ex := .ret) rfl rfl (Za.seq (Za.go (t:=(vp rs::(dds 1 (.val (.bool false)::(dds 19 []))))) Jt 400 [] [0,2] a0) (Za.seq (Za.go (t:=(vp rs::(dds 1 (.val (.bool false)::(vp ts::(dds 18 [])))))) Jt 400 [.r (.fresh 2 ts.length (pc ts))] [0,2,3] (ac n1 a0)) (Za.seq_out (Za.go Jt 400 [.b true] [2] (ac c1 a0)) (by intro e;cases e)))) (by intro i e;cases e) rfl
theorem Zch (rs ts:List Rn) (i:Int) (c1:(decide ((i64.wrap ((ts.length:Int)-1))>16))=false) (n1:Ze Yir 43 [.sl rs.length (pc rs)] (.fresh 2 ts.length (pc ts))) (hl2:Za Yir (.loop Zpw) (Zaz false ts 0) (.exit 0) (Zaz false ts i)):Ze Yir 67 [.sl rs.length (pc rs)] (.bool false):=Ze.of_bodyW (fn:=Zxw) (s:=(dds 2 (.val (.bool false)::(dds 19 [])))) (ex := .ret) rfl rfl (Za.seq (Za.go (t:=(vp rs::(dds 1 (.val (.bool false)::(dds 19 []))))) Jt 400 [] [0,2] a0) (Za.seq (Za.go (t:=(vp rs::(dds 1 (.val (.bool false)::(vp ts::(dds 18 [])))))) Jt 400 [.r (.fresh 2 ts.length (pc ts))] [0,2,3] (ac n1 a0)) (Za.seq (Za.go (t:=(vp rs::(dds 1 (.val (.bool false)::(vp ts::(dds 18 [])))))) Jt 400 [.b false] [0,2,3] (ac c1 a0)) (Za.seq (Za.seq (Za.go Jt 400 [] [2,3,4] a0) (Za.block hl2)) (Za.go Jt 400 [] [2] a0))))) (by intro i e;cases e) rfl
theorem Zcg (rs ts:List Rn) (i:Int) (c1:(decide ((i64.wrap ((ts.length:Int)-1))>16))=false) (n1:Ze Yir 43 [.sl rs.length (pc rs)] (.fresh 2 ts.length (pc ts))) (hl2:Za Yir (.loop Zpw) (Zaz false ts 0) .ret (Zaz true ts i)):Ze Yir 67 [.sl rs.length (pc rs)] (.bool true):=Ze.of_bodyW (fn:=Zxw) (s:=(dds 2 (.val (.bool true)::(.val (.sl ts.length (pc ts))::(.val (.int .i64 i)::(dds 17 [])))))) (ex := .ret) rfl rfl (Za.seq (Za.go (t:=(vp rs::(dds 1 (.val (.bool false)::(dds 19 []))))) Jt 400 [] [0,2] a0) (Za.seq (Za.go (t:=(vp rs::(dds 1 (.val (.bool false)::(vp ts::(dds 18 [])))))) Jt 400 [.r (.fresh 2 ts.length (pc ts))] [0,2,3] (ac n1 a0)) (Za.seq (Za.go (t:=(vp rs::(dds 1 (.val (.bool false)::(vp ts::(dds 18 [])))))) Jt 400 [.b false] [0,2,3] (ac c1 a0)) (Za.seq_out (Za.seq (Za.go Jt 400 [] [2,3,4] a0) (Za.block_ret hl2)) (by intro e;cases e))))) (by intro i e;cases e) rfl
theorem Yrun44 (rs ts:List Rn) (n1:Ze Yir 43 [.sl rs.length (pc rs)] (.fresh 2 ts.length (pc ts))):Ze Yir 44 [.sl rs.length (pc rs)] (.int .i64 (i64.wrap ((ts.length:Int)-1))):=Ze.go (fn:=Yi44) Jt rfl 400 rfl [.r (.fresh 2 ts.length (pc ts))] (ac n1 a0)
end Go.Proofs.Ythnnfemologhfaa

namespace Go.Proofs.Ythnnfemologhfaa
open Go.IntKind (i64 u64 u32)
open Go.Ai
set_option maxRecDepth 100000
theorem Ms {xs:List Int} (hu:U32 xs) (neg:Bool):decide (256<(Zc xs).length)=Zfn (rv neg xs):=by
 unfold Zfn
 rw[D6 (neg:=neg) hu]
theorem Rf {rs:List Rn} (hg:∀ r∈rs,Ju 1048576 r) (hN:rs.length≤1048576):Ze Yir 67 [.sl rs.length (pc rs)] (.bool (X5 (Zi rs))):=by
 have htr:=Xl hg hN
 have hl:=Qc (Zi rs)
 rw[Zs] at hl
 have hf:∀ x∈Zc (Zi rs),Jg 1048576 x:=W1 (Jf hg)
 have gts:=Be hf
 have hvs:=Z5 (Zc (Zi rs))
 have hpk:pk (Zc (Zi rs))=pc ((Zc (Zi rs)).map cn):=rfl
 rw[hpk,← List.length_map (f:=cn)] at htr
 have hlm:((Zc (Zi rs)).map cn).length=(Zc (Zi rs)).length:=List.length_map ..
 have hgd:∀ t,Zn (((Zc (Zi rs)).map cn).getD t z0)=(Zc (Zi rs)).getD t 0:=fun t=>by rw[← Q2,hvs]
 generalize (Zc (Zi rs)).map cn=ts at *
 have e1:i64.wrap ((ts.length:Int)-1)=(ts.length:Int)-1:=w64 (by omega) (by omega)
 have hcall:∀ t,Ze Yir 79 [.agg [.bool (ts.getD t z0).1, .sl (ts.getD t z0).2.length (lm (ts.getD t z0).2)]] (.bool (Zfn ((Zc (Zi rs)).getD t 0))):=fun t=>by
  obtain⟨g1,g2⟩:=Z8 gts t
  have h:=Eo (neg:=(ts.getD t z0).1) (xs:=(ts.getD t z0).2) g2
  rw[Ms g1 (ts.getD t z0).1,show rv (ts.getD t z0).1 (ts.getD t z0).2=Zn (ts.getD t z0) from rfl,hgd] at h
  exact h
 have step:∀ t:Nat,t<ts.length→Zfn ((Zc (Zi rs)).getD t 0)=false→Za Yir Zpw (Zaz false ts (t:Nat)) .norm (Zaz false ts ((t+1:Nat):Int)):=by
  intro t ht hb
  have ei:i64.wrap ((t:Int)+1)=((t+1:Nat):Int):=by rw[w64 (by omega) (by omega)];omega
  have hc:=hcall t
  rw[hb] at hc
  have k2:=Yk67_2 false ts (t:Nat) false (by simp;omega) rfl (by omega) (by rw[Int.toNat_natCast];exact hc)
  rwa [ei] at k2
 by_cases h17:(Zc (Zi rs)).length≤17
 ·have c1:decide (i64.wrap ((ts.length:Int)-1)>16)=false:=by rw[e1,decide_eq_false_iff_not];omega
  rcases Hh (fun j=>Zfn ((Zc (Zi rs)).getD j 0)) ts.length _ 0 (by rw[Nat.zero_add]) with h | ⟨j,_,h2,h3,h4⟩
  ·have hf:X5 (Zi rs)=false:=by
    unfold X5
    rw[decide_eq_false (by omega),Bool.false_or,List.any_eq_false]
    intro x hx
    obtain⟨i,hi,rfl⟩:=List.mem_iff_getElem.1 hx
    have:=h i (by omega) (by omega)
    rw[List.getD_eq_getElem?_getD,List.getElem?_eq_getElem hi] at this
    simpa using this
   rw[hf]
   exact Zch rs ts _ c1 htr (Za.upTo (prog:=Yir) (c:=Zpw) (ex := .exit 0) (fun t=>Zaz false ts (t:Nat)) ts.length (by intro e;cases e) (Yk67_3 false ts _ (by simp)) 0 (Nat.zero_le _) (fun t _ h6=>step t h6 (h t (by omega) h6)))
  ·have hf:X5 (Zi rs)=true:=by
    unfold X5
    rw[decide_eq_false (by omega),Bool.false_or,List.any_eq_true]
    refine⟨(Zc (Zi rs)).getD j 0,?_,h3⟩
    rw[List.getD_eq_getElem?_getD,List.getElem?_eq_getElem (by omega)]
    exact List.getElem_mem _
   rw[hf]
   have hc:=hcall j
   rw[h3] at hc
   have out:=Yk67_1 false ts (j:Nat) true (by simp;omega) rfl (by omega) (by rw[Int.toNat_natCast];exact hc)
   exact Zcg rs ts _ c1 htr (Za.upTo (prog:=Yir) (c:=Zpw) (ex := .ret) (fun t=>Zaz false ts (t:Nat)) j (by intro e;cases e) out 0 (Nat.zero_le _) (fun t _ h6=>step t (by omega) (h4 t (by omega) h6)))
 ·have hf:X5 (Zi rs)=true:=by unfold X5;rw[decide_eq_true (by omega)];rfl
  rw[hf]
  exact Zci rs ts (by rw[e1,decide_eq_true_eq];omega) htr
theorem My {rs:List Rn} (hg:∀ r∈rs,Ju 1048576 r) (hN:rs.length≤1048576):Ze Yir 44 [.sl rs.length (pc rs)] (.int .i64 (((Zc (Zi rs)).length:Nat)-1:Int)):=by
 have htr:=Xl hg hN
 have hl:=Qc (Zi rs)
 rw[Zs] at hl
 have hpk:pk (Zc (Zi rs))=pc ((Zc (Zi rs)).map cn):=rfl
 rw[hpk,← List.length_map (f:=cn)] at htr
 have h:=Yrun44 rs _ htr
 rw[w64 (by omega) (by rw[List.length_map];omega),List.length_map] at h
 exact h
section
variable {K X:Nat} {rs:List Rn} {r:Rn} {e:Int}
end
end Go.Proofs.Ythnnfemologhfaa

namespace Go.Proofs.Ythnnfemologhfaa
open Go.IntKind (i64 u64 u32)
open Go.Ai
set_option maxRecDepth 100000
def fewB (n m:Nat) (rs:List Rn):Bool:=decide (rs.length≤n)&&rs.all (fun r=>decide (r.2.length≤m))
theorem Zks {n m:Nat} {rs:List Rn} (h:fewB n m rs=true) (hu:∀ r∈rs,U32 r.2):rs.length≤n∧∀ r∈rs,Ju m r:=by
 unfold fewB at h
 rw[Bool.and_eq_true,decide_eq_true_eq,List.all_eq_true] at h
 exact⟨h.1,fun r hr=>⟨hu r hr,by simpa using h.2 r hr⟩⟩
end Go.Proofs.Ythnnfemologhfaa

namespace Go.Proofs.Ythnnfemologhfaa
open Go.IntKind (i64 u64 u32)
open Go.Ai
set_option maxRecDepth 100000
theorem Yrun34 (rs us:List Rn) (n1:Ze Yir 61 [.sl 1 [.sl rs.length (pc rs)]] (.bool false)) (n2:Ze Yir 86 [.sl rs.length (pc rs)] (.fresh 2 us.length (pc us))):Ze Yir 34 [.sl rs.length (pc rs)] (.tup [.sl us.length (pc us), .int .i64 0]):=Ze.go (fn:=Yi34) Zi6 rfl 400 rfl [.r (.bool false), .b false, .r (.fresh 2 us.length (pc us))] (ac n1 (ac (show false=false from rfl) (ac n2 a0)))
end Go.Proofs.Ythnnfemologhfaa

namespace Go.Proofs.Ythnnfemologhfaa
open Go.IntKind (i64 u64 u32)
open Go.Ai
set_option maxRecDepth 100000
theorem Nw {rs:List Rn} {K:Nat} (hg:∀ r∈rs,Ju K r) (hK:K≤256) (hl:rs.length≤17):Ze Yir 67 [.sl rs.length (pc rs)] (.bool false):=by
 have h:=Rf (rs:=rs) (fun r hr=>(hg r hr).mono (by omega)) (by omega)
 rwa [Ek hg hK hl] at h
section
variable {rs ss:List Rn} (hr:∀ r∈rs,Ju 6 r) (hs:∀ r∈ss,Ju 6 r) (hn:rs.length≤9) (hm:ss.length≤9)
include hr hs hn hm
end
end Go.Proofs.Ythnnfemologhfaa

namespace Go.Proofs.Ythnnfemologhfaa
open Go.IntKind (i64 u64 u32)
open Go.Ai
set_option maxRecDepth 100000
theorem Zgi (na nb:Bool) (xs ys:List Int) (s t:Int) (c1:(decide (s<t))=true) (n1:Ze Yir 81 [.agg [.bool na, .sl xs.length (lm xs)]] (.int .i64 s)) (n2:Ze Yir 81 [.agg [.bool nb, .sl ys.length (lm ys)]] (.int .i64 t)):Ze Yir 135 [.agg [.bool na, .sl xs.length (lm xs)], .agg [.bool nb, .sl ys.length (lm ys)]] (.int .i64 (-1)):=Ze.go (fn:=Pc) Zd rfl 400 rfl [.r (.int .i64 s), .r (.int .i64 t), .b true] (ac n1 (ac n2 (ac c1 a0)))
theorem Zgh (na nb:Bool) (xs ys:List Int) (s t:Int) (c1:(decide (s<t))=false) (c2:(decide (s>t))=true) (n1:Ze Yir 81 [.agg [.bool na, .sl xs.length (lm xs)]] (.int .i64 s)) (n2:Ze Yir 81 [.agg [.bool nb, .sl ys.length (lm ys)]] (.int .i64 t)):Ze Yir 135 [.agg [.bool na, .sl xs.length (lm xs)], .agg [.bool nb, .sl ys.length (lm ys)]] (.int .i64 1):=Ze.go (fn:=Pc) Zd rfl 400 rfl [.r (.int .i64 s), .r (.int .i64 t), .b false, .b true] (ac n1 (ac n2 (ac c1 (ac c2 a0))))
theorem Zgg (na nb:Bool) (xs ys:List Int) (s t c:Int) (c1:(decide (s<t))=false) (c2:(decide (s>t))=false) (c3:(decide (s<0))=true) (n1:Ze Yir 81 [.agg [.bool na, .sl xs.length (lm xs)]] (.int .i64 s)) (n2:Ze Yir 81 [.agg [.bool nb, .sl ys.length (lm ys)]] (.int .i64 t)) (n3:Ze Yir 125 [.sl xs.length (lm xs)] (.fresh 1 ((Zc xs).length) (lm (Zc xs)))) (n4:Ze Yir 125 [.sl ys.length (lm ys)] (.fresh 1 ((Zc ys).length) (lm (Zc ys)))) (n5:Ze Yir 139 [.sl ((Zc xs).length) (lm (Zc xs)), .sl ((Zc ys).length) (lm (Zc ys))] (.int .i64 c)):Ze Yir 135 [.agg [.bool na, .sl xs.length (lm xs)], .agg [.bool nb, .sl ys.length (lm ys)]] (.int .i64 (i64.wrap (0-c))):=Ze.go (fn:=Pc) Zd rfl 400 rfl [.r (.int .i64 s), .r (.int .i64 t), .b false, .b false, .r (.fresh 1 ((Zc xs).length) (lm (Zc xs))), .r (.fresh 1 ((Zc ys).length) (lm (Zc ys))), .r (.int .i64 c), .b true] (ac n1 (ac n2 (ac c1 (ac c2 (ac n3 (ac n4 (ac n5 (ac c3 a0))))))))
theorem Zgf (na nb:Bool) (xs ys:List Int) (s t c:Int) (c1:(decide (s<t))=false) (c2:(decide (s>t))=false) (c3:(decide (s<0))=false) (n1:Ze Yir 81 [.agg [.bool na, .sl xs.length (lm xs)]] (.int .i64 s)) (n2:Ze Yir 81 [.agg [.bool nb, .sl ys.length (lm ys)]] (.int .i64 t)) (n3:Ze Yir 125 [.sl xs.length (lm xs)] (.fresh 1 ((Zc xs).length) (lm (Zc xs)))) (n4:Ze Yir 125 [.sl ys.length (lm ys)] (.fresh 1 ((Zc ys).length) (lm (Zc ys)))) (n5:Ze Yir 139 [.sl ((Zc xs).length) (lm (Zc xs)), .sl ((Zc ys).length) (lm (Zc ys))] (.int .i64 c)):Ze Yir 135 [.agg [.bool na, .sl xs.length (lm xs)], .agg [.bool nb, .sl ys.length (lm ys)]] (.int .i64 c):=Ze.go (fn:=Pc) Zd rfl 400 rfl [.r (.int .i64 s), .r (.int .i64 t), .b false, .b false, .r (.fresh 1 ((Zc xs).length) (lm (Zc xs))), .r (.fresh 1 ((Zc ys).length) (lm (Zc ys))), .r (.int .i64 c), .b false] (ac n1 (ac n2 (ac c1 (ac c2 (ac n3 (ac n4 (ac n5 (ac c3 a0))))))))
theorem Zgm (na nb m1 m2:Bool) (xs ys us vs:List Int) (d:Int) (c1:(m1)=true) (c2:(m2)=true) (n1:Ze Yir 122 [.agg [.bool na, .sl xs.length (lm xs)]] (.tup [.bool m1, .sl us.length (lm us)])) (n2:Ze Yir 122 [.agg [.bool nb, .sl ys.length (lm ys)]] (.tup [.bool m2, .sl vs.length (lm vs)])) (n3:Ze Yir 150 [.sl vs.length (lm vs), .sl us.length (lm us)] (.int .i64 d)):Ze Yir 134 [.agg [.bool na, .sl xs.length (lm xs)], .agg [.bool nb, .sl ys.length (lm ys)]] (.int .i64 d):=Ze.go (fn:=Pd) Zd rfl 400 rfl [.r (.tup [.bool m1, .sl us.length (lm us)]), .r (.tup [.bool m2, .sl vs.length (lm vs)]), .b true, .b false, .b true, .b false, .b true, .r (.int .i64 d)] (ac n1 (ac n2 (ac c1 (ac (show (!m2)=false from (by rw [c2];rfl)) (ac c2 (ac (show (!m1)=false from (by rw [c1];rfl)) (ac c1 (ac n3 a0))))))))
theorem Zgl (na nb m1 m2:Bool) (xs ys us vs:List Int) (c1:(m1)=true) (c2:(m2)=false) (n1:Ze Yir 122 [.agg [.bool na, .sl xs.length (lm xs)]] (.tup [.bool m1, .sl us.length (lm us)])) (n2:Ze Yir 122 [.agg [.bool nb, .sl ys.length (lm ys)]] (.tup [.bool m2, .sl vs.length (lm vs)])):Ze Yir 134 [.agg [.bool na, .sl xs.length (lm xs)], .agg [.bool nb, .sl ys.length (lm ys)]] (.int .i64 (-1)):=Ze.go (fn:=Pd) Zd rfl 400 rfl [.r (.tup [.bool m1, .sl us.length (lm us)]), .r (.tup [.bool m2, .sl vs.length (lm vs)]), .b true, .b true] (ac n1 (ac n2 (ac c1 (ac (show (!m2)=true from (by rw [c2];rfl)) a0))))
theorem Zgk (na nb m1 m2:Bool) (xs ys us vs:List Int) (c1:(m1)=false) (c2:(m2)=true) (n1:Ze Yir 122 [.agg [.bool na, .sl xs.length (lm xs)]] (.tup [.bool m1, .sl us.length (lm us)])) (n2:Ze Yir 122 [.agg [.bool nb, .sl ys.length (lm ys)]] (.tup [.bool m2, .sl vs.length (lm vs)])):Ze Yir 134 [.agg [.bool na, .sl xs.length (lm xs)], .agg [.bool nb, .sl ys.length (lm ys)]] (.int .i64 1):=Ze.go (fn:=Pd) Zd rfl 400 rfl [.r (.tup [.bool m1, .sl us.length (lm us)]), .r (.tup [.bool m2, .sl vs.length (lm vs)]), .b false, .b false, .b true, .b true] (ac n1 (ac n2 (ac c1 (ac (show false=false from rfl) (ac c2 (ac (show (!m1)=true from (by rw [c1];rfl)) a0))))))
theorem Zgj (na nb m1 m2:Bool) (xs ys us vs:List Int) (c:Int) (c1:(m1)=false) (c2:(m2)=false) (n1:Ze Yir 122 [.agg [.bool na, .sl xs.length (lm xs)]] (.tup [.bool m1, .sl us.length (lm us)])) (n2:Ze Yir 122 [.agg [.bool nb, .sl ys.length (lm ys)]] (.tup [.bool m2, .sl vs.length (lm vs)])) (n3:Ze Yir 150 [.sl us.length (lm us), .sl vs.length (lm vs)] (.int .i64 c)):Ze Yir 134 [.agg [.bool na, .sl xs.length (lm xs)], .agg [.bool nb, .sl ys.length (lm ys)]] (.int .i64 c):=Ze.go (fn:=Pd) Zd rfl 400 rfl [.r (.tup [.bool m1, .sl us.length (lm us)]), .r (.tup [.bool m2, .sl vs.length (lm vs)]), .b false, .b false, .b false, .b false, .b false, .r (.int .i64 c)] (ac n1 (ac n2 (ac c1 (ac (show false=false from rfl) (ac c2 (ac (show false=false from rfl) (ac c1 (ac n3 a0))))))))
theorem Yrun98 (r t:Rn) (e f X Y c:Int) (n1:Ze Yir 124 [Zt r, .int .i64 (i64.wrap ((if f>e then f else e)-e))] (Zl X)) (n2:Ze Yir 124 [Zt t, .int .i64 (i64.wrap ((if f>e then f else e)-f))] (Zl Y)) (n3:Ze Yir 134 [Zl X,Zl Y] (.int .i64 c)):Ze Yir 98 [.agg [.bool r.1, .sl r.2.length (lm r.2), .int .i64 e], .agg [.bool t.1, .sl t.2.length (lm t.2), .int .i64 f]] (.int .i64 c):=Ze.go (fn:=Yi98) Zd rfl 400 rfl [.r (Zl X), .r (Zl Y), .r (.int .i64 c)] (ac n1 (ac n2 (ac n3 a0)))
theorem Zld (r:Rn) (e s:Int) (c1:(decide (e≥0))=true) (c2:(decide (e≤4096))=true) (n1:Ze Yir 76 [Zt r] (.int .i64 s)):Ze Yir 97 [.agg [.bool r.1, .sl r.2.length (lm r.2), .int .i64 e]] (.bool (decide (s≤256))):=Ze.go (fn:=Zw8) Zd rfl 400 rfl [.b true, .b true, .r (.int .i64 s)] (ac c1 (ac c2 (ac n1 a0)))
theorem Zlc (r:Rn) (e:Int) (c1:(decide (e≥0))=true) (c2:(decide (e≤4096))=false):Ze Yir 97 [.agg [.bool r.1, .sl r.2.length (lm r.2), .int .i64 e]] (.bool false):=Ze.go (fn:=Zw8) Zd rfl 400 rfl [.b true, .b false] (ac c1 (ac c2 a0))
theorem Zlb (r:Rn) (e:Int) (c1:(decide (e≥0))=false):Ze Yir 97 [.agg [.bool r.1, .sl r.2.length (lm r.2), .int .i64 e]] (.bool false):=Ze.go (fn:=Zw8) Zd rfl 400 rfl [.b false, .b false] (ac c1 (ac (show false=false from rfl) a0))
theorem Zg7 (r:Rn) (e:Int) (b:Bool) (c1:(decide (e≥0))=true) (c2:(decide (e≤4096))=true) (n1:Ze Yir 79 [Zt r] (.bool b)):Ze Yir 101 [.agg [.bool r.1, .sl r.2.length (lm r.2), .int .i64 e]] (.bool (!b)):=Ze.go (fn:=Tf) Zd rfl 400 rfl [.b true, .b true, .r (.bool b)] (ac c1 (ac c2 (ac n1 a0)))
theorem Zg6 (r:Rn) (e:Int) (c1:(decide (e≥0))=true) (c2:(decide (e≤4096))=false):Ze Yir 101 [.agg [.bool r.1, .sl r.2.length (lm r.2), .int .i64 e]] (.bool false):=Ze.go (fn:=Tf) Zd rfl 400 rfl [.b true, .b false] (ac c1 (ac c2 a0))
theorem Zg5 (r:Rn) (e:Int) (c1:(decide (e≥0))=false):Ze Yir 101 [.agg [.bool r.1, .sl r.2.length (lm r.2), .int .i64 e]] (.bool false):=Ze.go (fn:=Tf) Zd rfl 400 rfl [.b false, .b false] (ac c1 (ac (show false=false from rfl) a0))
theorem Zs1 (r t:Rn) (e f X Y c:Int) (n1:Ze Yir 126 [Zt r, .int .i64 f] (Us X)) (n2:Ze Yir 126 [Zt t, .int .i64 e] (Us Y)) (n3:Ze Yir 135 [Zl X,Zl Y] (.int .i64 c)):Ze Yir 102 [.agg [.bool r.1, .sl r.2.length (lm r.2), .int .i64 e], .agg [.bool t.1, .sl t.2.length (lm t.2), .int .i64 f]] (.int .i64 c):=Ze.go (fn:=Zil) Zd rfl 400 rfl [.r (Us X), .r (Us Y), .r (.int .i64 c)] (ac n1 (ac n2 (ac n3 a0)))
theorem Zqw (r:Rn) (e:Int)  : Ze Yir 49 [.agg [.bool r.1, .sl r.2.length (lm r.2), .int .i64 e]] (.bool (decide ((r.2.length:Int)≤8))):=Ze.go (fn:=Yi49) Zd rfl 400 rfl [] a0
end Go.Proofs.Ythnnfemologhfaa

namespace Go.Proofs.Ythnnfemologhfaa
open Go.IntKind (i64 u64 u32)
open Go.Ai
set_option maxRecDepth 100000
theorem cmp_sg {a b X Y:Int} (ha:a=X∨a = -X) (hb:b=Y∨b = -Y) (hX:0≤X) (hY:0≤Y) :
  (Xh a<Xh b→Uu a b = -1)∧(Xh a>Xh b→Uu a b=1)∧(¬ Xh a<Xh b→¬ Xh a>Xh b→(Xh a<0→Uu a b = -Uu X Y)∧(¬ Xh a<0→Uu a b=Uu X Y)):=by
 unfold Xh Uu
 grind
theorem Zrx (a b:Int) : -1≤Uu a b∧Uu a b≤1:=by unfold Uu;grind
theorem rv_or (neg:Bool) (xs:List Int):rv neg xs=Zj xs∨rv neg xs = -Zj xs:=by unfold rv;cases neg <;> simp
theorem Zj7 {na nb:Bool} {xs ys:List Int} (hx:U32 xs) (hy:U32 ys) (h1:xs.length≤1048576) (h2:ys.length≤1048576):Ze Yir 135 [.agg [.bool na, .sl xs.length (lm xs)], .agg [.bool nb, .sl ys.length (lm ys)]] (.int .i64 (Uu (rv na xs) (rv nb ys))):=by
 obtain⟨a1,a2,a3⟩:=cmp_sg (rv_or na xs) (rv_or nb ys) (Zx hx) (Zx hy)
 have s1:=Uk (neg:=na) hx h1
 have s2:=Uk (neg:=nb) hy h2
 by_cases c1:Xh (rv na xs)<Xh (rv nb ys)
 ·rw[a1 c1]
  exact Zgi na nb xs ys _ _ (by rw[decide_eq_true_eq];exact c1) s1 s2
 by_cases c2:Xh (rv na xs)>Xh (rv nb ys)
 ·rw[a2 c2]
  exact Zgh na nb xs ys _ _ (by rw[decide_eq_false_iff_not];exact c1) (by rw[decide_eq_true_eq];exact c2) s1 s2
 obtain⟨a4,a5⟩:=a3 c1 c2
 have t1:=Qc xs
 have t2:=Qc ys
 have hc:=F1 (Xr hx) (Xr hy) (by omega)
 rw[J3,J3] at hc
 by_cases c3:Xh (rv na xs)<0
 ·have hb:=Zrx (Zj xs) (Zj ys)
  have k:=Zgg na nb xs ys _ _ _ (by rw[decide_eq_false_iff_not];exact c1) (by rw[decide_eq_false_iff_not];exact c2) (by rw[decide_eq_true_eq];exact c3) s1 s2 (Xe h1) (Xe h2) hc
  rw[w64 (by omega) (by omega),Int.zero_sub] at k
  rw[a4 c3]
  exact k
 ·rw[a5 c3]
  exact Zgf na nb xs ys _ _ _ (by rw[decide_eq_false_iff_not];exact c1) (by rw[decide_eq_false_iff_not];exact c2) (by rw[decide_eq_false_iff_not];exact c3) s1 s2 (Xe h1) (Xe h2) hc
theorem Zjk {na nb:Bool} {xs ys:List Int} (hx:U32 xs) (hy:U32 ys) (h1:xs.length≤1048576) (h2:ys.length≤1048576):Ze Yir 134 [.agg [.bool na, .sl xs.length (lm xs)], .agg [.bool nb, .sl ys.length (lm ys)]] (.int .i64 (Uu (rv na xs) (rv nb ys))):=by
 have s1:=Jo (neg:=na) hx h1
 have s2:=Jo (neg:=nb) hy h2
 have l1:=Ue (neg:=na) hx
 have l2:=Ue (neg:=nb) hy
 have k1:=V9 (Qq (rv na xs).natAbs) (Qq (rv nb ys).natAbs) (by omega)
 have k2:=V9 (Qq (rv nb ys).natAbs) (Qq (rv na xs).natAbs) (by omega)
 rw[Q9,Q9] at k1 k2
 by_cases c1:rv na xs<0
 ·by_cases c2:rv nb ys<0
  ·have e:Uu (rv na xs) (rv nb ys)=Uu ((rv nb ys).natAbs:Int) ((rv na xs).natAbs:Int):=by unfold Uu;grind
   rw[e]
   exact Zgm na nb _ _ xs ys _ _ _ (decide_eq_true c1) (decide_eq_true c2) s1 s2 k2
  ·have e:Uu (rv na xs) (rv nb ys) = -1:=by unfold Uu;grind
   rw[e]
   exact Zgl na nb _ _ xs ys _ _ (decide_eq_true c1) (decide_eq_false c2) s1 s2
 ·by_cases c2:rv nb ys<0
  ·have e:Uu (rv na xs) (rv nb ys)=1:=by unfold Uu;grind
   rw[e]
   exact Zgk na nb _ _ xs ys _ _ (decide_eq_false c1) (decide_eq_true c2) s1 s2
  ·have e:Uu (rv na xs) (rv nb ys)=Uu ((rv na xs).natAbs:Int) ((rv nb ys).natAbs:Int):=by unfold Uu;grind
   rw[e]
   exact Zgj na nb _ _ xs ys _ _ _ (decide_eq_false c1) (decide_eq_false c2) s1 s2 k1
end Go.Proofs.Ythnnfemologhfaa

namespace Go.Proofs.Ythnnfemologhfaa
open Go.IntKind (i64 u64 u32)
open Go.Ai
set_option maxRecDepth 100000
theorem ax0:Ze Yir 52 [.sl 3 [.int .i64 (-2), .int .i64 0, .int .i64 1]] (.fresh 2 3 [.bool true, .sl 1 [.int .u32 2], .bool false, .sl 0 [], .bool false, .sl 1 [.int .u32 1]]):=Zz Qh (Zo _) 400 _ _ _ (by kernel_rfl)
theorem ax1:Ze Yir 52 [.sl 3 [.int .i64 0, .int .i64 (-1), .int .i64 1]] (.fresh 2 3 [.bool false, .sl 0 [], .bool true, .sl 1 [.int .u32 1], .bool false, .sl 1 [.int .u32 1]]):=Zz Qh (Zo _) 400 _ _ _ (by kernel_rfl)
theorem ax2:Ze Yir 92 [.sl 3 [.bool true, .sl 1 [.int .u32 2], .bool false, .sl 0 [], .bool false, .sl 1 [.int .u32 1]]] (.fresh 2 3 [.bool true, .sl 1 [.int .u32 2], .bool false, .sl 0 [], .bool false, .sl 1 [.int .u32 1]]):=Zz Qh (Zo _) 400 _ _ _ (by kernel_rfl)
theorem ax3:Ze Yir 109 [.agg [.bool false, .sl 0 []], .agg [.bool false, .sl 1 [.int .u32 1]]] (.agg [.bool false, .sl 1 [.int .u32 1]]):=Zz Qh (Zo _) 400 _ _ _ (by kernel_rfl)
theorem ax4:Ze Yir 34 [.sl 3 [.bool true, .sl 1 [.int .u32 2], .bool false, .sl 0 [], .bool false, .sl 1 [.int .u32 1]]] (.tup [.sl 3 [.bool true, .sl 1 [.int .u32 2], .bool false, .sl 0 [], .bool false, .sl 1 [.int .u32 1]], .int .i64 0]):=Zz Qh (Zh ax3 (Zh ax2 (Zo _))) 400 _ _ _ (by kernel_rfl)
theorem ax5:Ze Yir 75 [.sl 3 [.bool true, .sl 1 [.int .u32 2], .bool false, .sl 0 [], .bool false, .sl 1 [.int .u32 1]]] (.fresh 2 2 [.bool false, .sl 0 [], .bool false, .sl 1 [.int .u32 2]]):=Zz Qh (Zo _) 400 _ _ _ (by kernel_rfl)
theorem ax6:Ze Yir 109 [.agg [.bool false, .sl 0 []], .agg [.bool false, .sl 1 [.int .u32 2]]] (.agg [.bool false, .sl 1 [.int .u32 2]]):=Zz Qh (Zo _) 400 _ _ _ (by kernel_rfl)
theorem ax7:Ze Yir 85 [.sl 2 [.bool false, .sl 0 [], .bool false, .sl 1 [.int .u32 2]]] (.agg [.bool false, .sl 1 [.int .u32 2]]):=Zz Qh (Zh ax6 (Zo _)) 400 _ _ _ (by kernel_rfl)
theorem ax8:Ze Yir 86 [.sl 2 [.bool false, .sl 0 [], .bool false, .sl 1 [.int .u32 2]]] (.fresh 2 2 [.bool false, .sl 0 [], .bool false, .sl 1 [.int .u32 1]]):=Zz Qh (Zh ax7 (Zo _)) 400 _ _ _ (by kernel_rfl)
theorem ax9:Ze Yir 86 [.sl 2 [.bool false, .sl 0 [], .bool false, .sl 1 [.int .u32 1]]] (.fresh 2 2 [.bool false, .sl 0 [], .bool false, .sl 1 [.int .u32 1]]):=Zz Qh (Zh ax3 (Zo _)) 400 _ _ _ (by kernel_rfl)
theorem ax10:Ze Yir 109 [.agg [.bool false, .sl 1 [.int .u32 1]], .agg [.bool false, .sl 1 [.int .u32 1]]] (.agg [.bool false, .sl 1 [.int .u32 1]]):=Zz Qh (Zo _) 400 _ _ _ (by kernel_rfl)
theorem ax11:Ze Yir 92 [.sl 3 [.bool true, .sl 1 [.int .u32 2], .bool false, .sl 0 [], .bool false, .sl 0 []]] (.fresh 2 1 [.bool true, .sl 1 [.int .u32 2]]):=Zz Qh (Zo _) 400 _ _ _ (by kernel_rfl)
theorem ax12:Ze Yir 109 [.agg [.bool false, .sl 0 []], .agg [.bool true, .sl 1 [.int .u32 2]]] (.agg [.bool false, .sl 1 [.int .u32 2]]):=Zz Qh (Zo _) 400 _ _ _ (by kernel_rfl)
theorem ax13:Ze Yir 86 [.sl 3 [.bool true, .sl 1 [.int .u32 2], .bool false, .sl 0 [], .bool false, .sl 0 []]] (.fresh 2 1 [.bool true, .sl 1 [.int .u32 1]]):=Zz Qh (Zh ax12 (Zh ax11 (Zo _))) 400 _ _ _ (by kernel_rfl)
theorem ax14:Ze Yir 64 [.sl 3 [.bool true, .sl 1 [.int .u32 2], .bool false, .sl 0 [], .bool false, .sl 1 [.int .u32 1]], .sl 2 [.bool false, .sl 0 [], .bool false, .sl 1 [.int .u32 1]]] (.fresh 2 1 [.bool true, .sl 1 [.int .u32 1]]):=Zz Qh (Zh ax13 (Zh ax10 (Zh ax9 (Zh ax3 (Zh ax2 (Zo _)))))) 400 _ _ _ (by kernel_rfl)
theorem ax15:Ze Yir 109 [.agg [.bool false, .sl 0 []], .agg [.bool true, .sl 1 [.int .u32 1]]] (.agg [.bool false, .sl 1 [.int .u32 1]]):=Zz Qh (Zo _) 400 _ _ _ (by kernel_rfl)
theorem ax16:Ze Yir 86 [.sl 1 [.bool true, .sl 1 [.int .u32 1]]] (.fresh 2 1 [.bool true, .sl 1 [.int .u32 1]]):=Zz Qh (Zh ax15 (Zo _)) 400 _ _ _ (by kernel_rfl)
theorem ax17:Ze Yir 109 [.agg [.bool true, .sl 1 [.int .u32 1]], .agg [.bool false, .sl 1 [.int .u32 1]]] (.agg [.bool false, .sl 1 [.int .u32 1]]):=Zz Qh (Zo _) 400 _ _ _ (by kernel_rfl)
theorem ax18:Ze Yir 64 [.sl 2 [.bool false, .sl 0 [], .bool false, .sl 1 [.int .u32 1]], .sl 1 [.bool true, .sl 1 [.int .u32 1]]] (.fresh 2 0 []):=Zz Qh (Zh ax17 (Zh ax16 (Zh ax9 (Zo _)))) 400 _ _ _ (by kernel_rfl)
theorem ax19:Ze Yir 65 [.sl 3 [.bool true, .sl 1 [.int .u32 2], .bool false, .sl 0 [], .bool false, .sl 1 [.int .u32 1]], .sl 2 [.bool false, .sl 0 [], .bool false, .sl 1 [.int .u32 2]]] (.fresh 2 1 [.bool false, .sl 1 [.int .u32 1]]):=Zz Qh (Zh ax18 (Zh ax14 (Zh ax8 (Zh ax3 (Zh ax2 (Zo _)))))) 400 _ _ _ (by kernel_rfl)
theorem ax20:Ze Yir 66 [.sl 3 [.bool true, .sl 1 [.int .u32 2], .bool false, .sl 0 [], .bool false, .sl 1 [.int .u32 1]]] (.sl 3 [.bool true, .sl 1 [.int .u32 2], .bool false, .sl 0 [], .bool false, .sl 1 [.int .u32 1]]):=Zz Qh (Zh ax19 (Zh ax5 (Zh ax3 (Zh ax2 (Zo _))))) 400 _ _ _ (by kernel_rfl)
theorem ax21:Ze Yir 86 [.sl 1 [.bool false, .sl 1 [.int .u32 1]]] (.fresh 2 1 [.bool false, .sl 1 [.int .u32 1]]):=Zz Qh (Zh ax3 (Zo _)) 400 _ _ _ (by kernel_rfl)
theorem ax22:Ze Yir 64 [.sl 2 [.bool false, .sl 0 [], .bool false, .sl 1 [.int .u32 1]], .sl 1 [.bool false, .sl 1 [.int .u32 1]]] (.fresh 2 0 []):=Zz Qh (Zh ax21 (Zh ax10 (Zh ax9 (Zo _)))) 400 _ _ _ (by kernel_rfl)
theorem ax23:Ze Yir 98 [.agg [.bool false, .sl 0 [], .int .i64 0], .agg [.bool false, .sl 1 [.int .u32 2], .int .i64 0]] (.int .i64 (-1)):=Zz Qh (Zo _) 400 _ _ _ (by kernel_rfl)
theorem ax24:Ze Yir 78 [.sl 3 [.bool true, .sl 1 [.int .u32 2], .bool false, .sl 0 [], .bool false, .sl 1 [.int .u32 1]], .agg [.bool false, .sl 0 [], .int .i64 0]] (.int .i64 (-1)):=Zz Qh (Zo _) 400 _ _ _ (by kernel_rfl)
theorem ax25:Ze Yir 78 [.sl 2 [.bool false, .sl 0 [], .bool false, .sl 1 [.int .u32 1]], .agg [.bool false, .sl 0 [], .int .i64 0]] (.int .i64 0):=Zz Qh (Zo _) 400 _ _ _ (by kernel_rfl)
theorem ax26:Ze Yir 78 [.sl 1 [.bool false, .sl 1 [.int .u32 1]], .agg [.bool false, .sl 0 [], .int .i64 0]] (.int .i64 1):=Zz Qh (Zo _) 400 _ _ _ (by kernel_rfl)
theorem ax27:Ze Yir 78 [.sl 3 [.bool true, .sl 1 [.int .u32 2], .bool false, .sl 0 [], .bool false, .sl 1 [.int .u32 1]], .agg [.bool false, .sl 1 [.int .u32 2], .int .i64 0]] (.int .i64 1):=Zz Qh (Zo _) 400 _ _ _ (by kernel_rfl)
theorem ax28:Ze Yir 78 [.sl 2 [.bool false, .sl 0 [], .bool false, .sl 1 [.int .u32 1]], .agg [.bool false, .sl 1 [.int .u32 2], .int .i64 0]] (.int .i64 1):=Zz Qh (Zo _) 400 _ _ _ (by kernel_rfl)
theorem ax29:Ze Yir 78 [.sl 1 [.bool false, .sl 1 [.int .u32 1]], .agg [.bool false, .sl 1 [.int .u32 2], .int .i64 0]] (.int .i64 1):=Zz Qh (Zo _) 400 _ _ _ (by kernel_rfl)
theorem ax30:Ze Yir 50 [.sl 3 [.bool true, .sl 1 [.int .u32 2], .bool false, .sl 0 [], .bool false, .sl 1 [.int .u32 1]], .agg [.bool false, .sl 0 [], .int .i64 0], .agg [.bool false, .sl 1 [.int .u32 2], .int .i64 0]] (.tup [.int .i64 1, .int .i64 0]):=Zz Qh (Zh ax29 (Zh ax28 (Zh ax27 (Zh ax26 (Zh ax25 (Zh ax24 (Zh ax23 (Zh ax22 (Zh ax20 (Zh ax14 (Zh ax8 (Zh ax5 (Zh ax4 (Zo _)))))))))))))) 400 _ _ _ (by kernel_rfl)
theorem ax31:Ze Yir 92 [.sl 3 [.bool false, .sl 0 [], .bool true, .sl 1 [.int .u32 1], .bool false, .sl 1 [.int .u32 1]]] (.fresh 2 3 [.bool false, .sl 0 [], .bool true, .sl 1 [.int .u32 1], .bool false, .sl 1 [.int .u32 1]]):=Zz Qh (Zo _) 400 _ _ _ (by kernel_rfl)
theorem ax32:Ze Yir 34 [.sl 3 [.bool false, .sl 0 [], .bool true, .sl 1 [.int .u32 1], .bool false, .sl 1 [.int .u32 1]]] (.tup [.sl 3 [.bool false, .sl 0 [], .bool true, .sl 1 [.int .u32 1], .bool false, .sl 1 [.int .u32 1]], .int .i64 0]):=Zz Qh (Zh ax31 (Zh ax3 (Zo _))) 400 _ _ _ (by kernel_rfl)
theorem ax33:Ze Yir 75 [.sl 3 [.bool false, .sl 0 [], .bool true, .sl 1 [.int .u32 1], .bool false, .sl 1 [.int .u32 1]]] (.fresh 2 2 [.bool true, .sl 1 [.int .u32 1], .bool false, .sl 1 [.int .u32 2]]):=Zz Qh (Zo _) 400 _ _ _ (by kernel_rfl)
end Go.Proofs.Ythnnfemologhfaa

namespace Go.Proofs.Ythnnfemologhfaa
open Go.IntKind (i64 u64 u32)
open Go.Ai
set_option maxRecDepth 100000
theorem ax34:Ze Yir 109 [.agg [.bool false, .sl 1 [.int .u32 2]], .agg [.bool true, .sl 1 [.int .u32 1]]] (.agg [.bool false, .sl 1 [.int .u32 1]]):=Zz Qh (Zo _) 400 _ _ _ (by kernel_rfl)
theorem ax35:Ze Yir 86 [.sl 2 [.bool true, .sl 1 [.int .u32 1], .bool false, .sl 1 [.int .u32 2]]] (.fresh 2 2 [.bool true, .sl 1 [.int .u32 1], .bool false, .sl 1 [.int .u32 2]]):=Zz Qh (Zh ax34 (Zh ax6 (Zo _))) 400 _ _ _ (by kernel_rfl)
theorem ax36:Ze Yir 109 [.agg [.bool false, .sl 1 [.int .u32 2]], .agg [.bool false, .sl 1 [.int .u32 1]]] (.agg [.bool false, .sl 1 [.int .u32 1]]):=Zz Qh (Zo _) 400 _ _ _ (by kernel_rfl)
theorem ax37:Ze Yir 92 [.sl 3 [.bool false, .sl 0 [], .bool true, .sl 1 [.int .u32 1], .bool false, .sl 0 []]] (.fresh 2 2 [.bool false, .sl 0 [], .bool true, .sl 1 [.int .u32 1]]):=Zz Qh (Zo _) 400 _ _ _ (by kernel_rfl)
theorem ax38:Ze Yir 86 [.sl 2 [.bool true, .sl 1 [.int .u32 1], .bool false, .sl 0 []]] (.fresh 2 1 [.bool true, .sl 1 [.int .u32 1]]):=Zz Qh (Zh ax15 (Zo _)) 400 _ _ _ (by kernel_rfl)
theorem ax39:Ze Yir 64 [.sl 3 [.bool false, .sl 0 [], .bool true, .sl 1 [.int .u32 1], .bool false, .sl 1 [.int .u32 1]], .sl 2 [.bool true, .sl 1 [.int .u32 1], .bool false, .sl 1 [.int .u32 2]]] (.fresh 2 1 [.bool true, .sl 1 [.int .u32 1]]):=Zz Qh (Zh ax38 (Zh ax37 (Zh ax36 (Zh ax35 (Zh ax34 (Zh ax31 (Zh ax15 (Zh ax3 (Zo _))))))))) 400 _ _ _ (by kernel_rfl)
theorem ax40:Ze Yir 109 [.agg [.bool true, .sl 1 [.int .u32 1]], .agg [.bool false, .sl 1 [.int .u32 2]]] (.agg [.bool false, .sl 1 [.int .u32 1]]):=Zz Qh (Zo _) 400 _ _ _ (by kernel_rfl)
theorem ax41:Ze Yir 109 [.agg [.bool true, .sl 1 [.int .u32 1]], .agg [.bool true, .sl 1 [.int .u32 1]]] (.agg [.bool false, .sl 1 [.int .u32 1]]):=Zz Qh (Zo _) 400 _ _ _ (by kernel_rfl)
theorem ax42:Ze Yir 64 [.sl 2 [.bool true, .sl 1 [.int .u32 1], .bool false, .sl 1 [.int .u32 2]], .sl 1 [.bool true, .sl 1 [.int .u32 1]]] (.fresh 2 0 []):=Zz Qh (Zh ax41 (Zh ax40 (Zh ax38 (Zh ax35 (Zh ax16 (Zo _)))))) 400 _ _ _ (by kernel_rfl)
theorem ax43:Ze Yir 65 [.sl 3 [.bool false, .sl 0 [], .bool true, .sl 1 [.int .u32 1], .bool false, .sl 1 [.int .u32 1]], .sl 2 [.bool true, .sl 1 [.int .u32 1], .bool false, .sl 1 [.int .u32 2]]] (.fresh 2 1 [.bool false, .sl 1 [.int .u32 1]]):=Zz Qh (Zh ax42 (Zh ax39 (Zh ax35 (Zh ax31 (Zh ax3 (Zo _)))))) 400 _ _ _ (by kernel_rfl)
theorem ax44:Ze Yir 66 [.sl 3 [.bool false, .sl 0 [], .bool true, .sl 1 [.int .u32 1], .bool false, .sl 1 [.int .u32 1]]] (.sl 3 [.bool false, .sl 0 [], .bool true, .sl 1 [.int .u32 1], .bool false, .sl 1 [.int .u32 1]]):=Zz Qh (Zh ax43 (Zh ax33 (Zh ax31 (Zh ax3 (Zo _))))) 400 _ _ _ (by kernel_rfl)
theorem ax45:Ze Yir 109 [.agg [.bool false, .sl 1 [.int .u32 1]], .agg [.bool false, .sl 1 [.int .u32 2]]] (.agg [.bool false, .sl 1 [.int .u32 1]]):=Zz Qh (Zo _) 400 _ _ _ (by kernel_rfl)
theorem ax46:Ze Yir 109 [.agg [.bool false, .sl 1 [.int .u32 1]], .agg [.bool true, .sl 1 [.int .u32 1]]] (.agg [.bool false, .sl 1 [.int .u32 1]]):=Zz Qh (Zo _) 400 _ _ _ (by kernel_rfl)
theorem ax47:Ze Yir 64 [.sl 2 [.bool true, .sl 1 [.int .u32 1], .bool false, .sl 1 [.int .u32 2]], .sl 1 [.bool false, .sl 1 [.int .u32 1]]] (.fresh 2 0 []):=Zz Qh (Zh ax46 (Zh ax45 (Zh ax38 (Zh ax35 (Zh ax21 (Zo _)))))) 400 _ _ _ (by kernel_rfl)
theorem ax48:Ze Yir 98 [.agg [.bool false, .sl 0 [], .int .i64 0], .agg [.bool false, .sl 1 [.int .u32 1], .int .i64 0]] (.int .i64 (-1)):=Zz Qh (Zo _) 400 _ _ _ (by kernel_rfl)
theorem ax49:Ze Yir 78 [.sl 3 [.bool false, .sl 0 [], .bool true, .sl 1 [.int .u32 1], .bool false, .sl 1 [.int .u32 1]], .agg [.bool false, .sl 0 [], .int .i64 0]] (.int .i64 0):=Zz Qh (Zo _) 400 _ _ _ (by kernel_rfl)
theorem ax50:Ze Yir 78 [.sl 2 [.bool true, .sl 1 [.int .u32 1], .bool false, .sl 1 [.int .u32 2]], .agg [.bool false, .sl 0 [], .int .i64 0]] (.int .i64 (-1)):=Zz Qh (Zo _) 400 _ _ _ (by kernel_rfl)
theorem ax51:Ze Yir 78 [.sl 3 [.bool false, .sl 0 [], .bool true, .sl 1 [.int .u32 1], .bool false, .sl 1 [.int .u32 1]], .agg [.bool false, .sl 1 [.int .u32 1], .int .i64 0]] (.int .i64 0):=Zz Qh (Zo _) 400 _ _ _ (by kernel_rfl)
theorem ax52:Ze Yir 78 [.sl 2 [.bool true, .sl 1 [.int .u32 1], .bool false, .sl 1 [.int .u32 2]], .agg [.bool false, .sl 1 [.int .u32 1], .int .i64 0]] (.int .i64 1):=Zz Qh (Zo _) 400 _ _ _ (by kernel_rfl)
theorem ax53:Ze Yir 78 [.sl 1 [.bool false, .sl 1 [.int .u32 1]], .agg [.bool false, .sl 1 [.int .u32 1], .int .i64 0]] (.int .i64 1):=Zz Qh (Zo _) 400 _ _ _ (by kernel_rfl)
theorem ax54:Ze Yir 50 [.sl 3 [.bool false, .sl 0 [], .bool true, .sl 1 [.int .u32 1], .bool false, .sl 1 [.int .u32 1]], .agg [.bool false, .sl 0 [], .int .i64 0], .agg [.bool false, .sl 1 [.int .u32 1], .int .i64 0]] (.tup [.int .i64 1, .int .i64 0]):=Zz Qh (Zh ax53 (Zh ax52 (Zh ax51 (Zh ax50 (Zh ax49 (Zh ax48 (Zh ax47 (Zh ax44 (Zh ax39 (Zh ax35 (Zh ax33 (Zh ax32 (Zh ax26 (Zo _)))))))))))))) 400 _ _ _ (by kernel_rfl)
theorem ax55:Ze Yir 95 [.sl 3 [.bool true, .sl 1 [.int .u32 2], .bool false, .sl 0 [], .bool false, .sl 1 [.int .u32 1]]] (.tup [.sl 3 [.sl 3 [.bool true, .sl 1 [.int .u32 2], .bool false, .sl 0 [], .bool false, .sl 1 [.int .u32 1]], .sl 2 [.bool false, .sl 0 [], .bool false, .sl 1 [.int .u32 1]], .sl 1 [.bool false, .sl 1 [.int .u32 1]]], .int .i64 0]):=Zz Qh (Zh ax22 (Zh ax21 (Zh ax20 (Zh ax14 (Zh ax9 (Zh ax8 (Zh ax5 (Zh ax4 (Zo _))))))))) 400 _ _ _ (by kernel_rfl)
theorem ax56:Ze Yir 107 [.agg [.bool false, .sl 1 [.int .u32 1], .int .i64 0], .agg [.bool false, .sl 1 [.int .u32 2], .int .i64 0]] (.agg [.bool false, .sl 1 [.int .u32 3], .int .i64 1]):=Zz Qh (Zo _) 400 _ _ _ (by kernel_rfl)
end Go.Proofs.Ythnnfemologhfaa

namespace Go.Proofs.Ythnnfemologhfaa
open Go.IntKind (i64 u64 u32)
open Go.Ai
set_option maxRecDepth 100000
theorem ax57:Ze Yir 47 [] (.bool true):=Zz Qh (Zh ax56 (Zh ax55 (Zh ax54 (Zh ax30 (Zh ax1 (Zh ax0 (Zo _))))))) 400 _ _ _ (by kernel_rfl)
theorem Yrun47:Ze Yir 47 [] (.bool true):=ax57
end Go.Proofs.Ythnnfemologhfaa

namespace Go.Proofs.Ythnnfemologhfaa
open Go.IntKind (i64 u64 u32)
open Go.Ai
set_option maxRecDepth 100000
theorem Ze5 {n k:Nat} (h:n<32*k):Jg k ((2:Int)^n):=by
 unfold Jg
 rw[Int.natAbs_pow]
 show 2^n<4294967296^k
 rw[show (4294967296:Nat)=2^32 by decide,← Nat.pow_mul]
 exact Nat.pow_lt_pow_right (by decide) h
theorem Zkg {a b:Nat} (ha:a≤4096) (hb:b≤4096):i64.wrap ((if (b:Int)>(a:Int) then (b:Int) else (a:Int))-(a:Int))=((max a b-a:Nat):Int):=by
 split <;> rw[w64 (by omega) (by omega)] <;> omega
theorem Zkf {a b:Nat} (ha:a≤4096) (hb:b≤4096):i64.wrap ((if (b:Int)>(a:Int) then (b:Int) else (a:Int))-(b:Int))=((max a b-b:Nat):Int):=by
 split <;> rw[w64 (by omega) (by omega)] <;> omega
theorem Zb4 {a b c:Int} (hc:0<c):Uu (a*c) (b*c)=Uu a b:=by
 unfold Uu
 have h1:a*c<b*c↔a<b:=Int.mul_lt_mul_right hc
 have h2:b*c<a*c↔b<a:=Int.mul_lt_mul_right hc
 simp only[h1,h2]
theorem Zrw (X Y:Int) (a b:Nat):Uu (X*2^(max a b-a)) (Y*2^(max a b-b))=Uu (X*2^b) (Y*2^a):=by
 have h:=Zb4 (a:=X*2^(max a b-a)) (b:=Y*2^(max a b-b)) (Jb (min a b))
 rw[← h,Int.mul_assoc,Int.mul_assoc,← Int.pow_add,← Int.pow_add,show max a b-a+min a b=b by omega,show max a b-b+min a b=a by omega]
def dyR (r:Rn) (e:Int):AV := .agg [.bool r.1, .sl r.2.length (lm r.2), .int .i64 e]
def vE (e:Int):Bool:=decide (e≥0)&&decide (e≤4096)
theorem Mp {r:Rn} {e:Int} (hg:Ju 200 r):Ze Yir 97 [dyR r e] (.bool (vE e)):=by
 unfold vE
 by_cases h1:e≥0
 ·by_cases h2:e≤4096
  ·have hs:=Bm (neg:=r.1) hg.1 (by have:=hg.2;omega)
   have hl:=Ue (neg:=r.1) hg.1
   have h2':=hg.2
   have k:=Zld r e _ (decide_eq_true h1) (decide_eq_true h2) hs
   rw[decide_eq_true (show (((Zb (rv r.1 r.2).natAbs).length:Nat):Int)≤256 by omega)] at k
   rw[decide_eq_true h1,decide_eq_true h2]
   exact k
  ·rw[decide_eq_true h1,decide_eq_false h2]
   exact Zlc r e (decide_eq_true h1) (decide_eq_false h2)
 ·rw[decide_eq_false h1,Bool.false_and]
  exact Zlb r e (decide_eq_false h1)
theorem Em {r:Rn} {e:Int} (hg:Ju 200 r):Ze Yir 101 [dyR r e] (.bool (vE e)):=by
 unfold vE
 by_cases h1:e≥0
 ·by_cases h2:e≤4096
  ·have h2':=hg.2
   have hs:=Eo (neg:=r.1) (xs:=r.2) (by omega)
   have ht:=Qc r.2
   rw[decide_eq_false (show ¬ 256<(Zc r.2).length by omega)] at hs
   rw[decide_eq_true h1,decide_eq_true h2]
   exact Zg7 r e false (decide_eq_true h1) (decide_eq_true h2) hs
  ·rw[decide_eq_true h1,decide_eq_false h2]
   exact Zg6 r e (decide_eq_true h1) (decide_eq_false h2)
 ·rw[decide_eq_false h1,Bool.false_and]
  exact Zg5 r e (decide_eq_false h1)
theorem Zp0 {e:Int} (h:vE e=true):∃ a:Nat,e=(a:Nat)∧a≤4096:=by
 unfold vE at h
 rw[Bool.and_eq_true,decide_eq_true_eq,decide_eq_true_eq] at h
 exact⟨e.toNat,by omega,by omega⟩
theorem Nq {r:Rn} (hr:Ju 8 r) {n:Nat} (hn:n≤4096):Ze Yir 124 [Zt r, .int .i64 (n:Nat)] (Zl (Zn r*2^n))∧Ze Yir 126 [Zt r, .int .i64 (n:Nat)] (Us (Zn r*2^n))∧Jg 137 (Zn r*2^n):=by
 have h2:=hr.2
 exact⟨Tl hr.1 n (by omega) (by omega),Ns hr.1 n (by omega),(hr.fits.mul (Ze5 (k:=129) (by omega))).mono (by omega)⟩
section
variable {r t:Rn} (hr:Ju 8 r) (ht:Ju 8 t)
include hr ht
end
end Go.Proofs.Ythnnfemologhfaa

namespace Go.Proofs.Ythnnfemologhfaa
open Go.IntKind (i64 u64 u32)
open Go.Ai
set_option maxRecDepth 100000
def Xp:Nat→List Int→List Int→List (List Int)
 | 0,_,_=>[]
 | f+1,a,b=>if b=[] then [] else b::Xp f b (Vd (J2 a b))
def Xo (p:List Int):List (List Int):=if Ql p=[] then [] else Ql p::Xp (Ql p).length (Ql p) (prim (Qu (Ql p)))
theorem Wb {p:List Int} (h:prim p=p):prim (Vd p)=Vd p:=by
 by_cases h0:p=[]
 ·subst h0;rfl
 ·have hl:Vm p:=Qk h
  have h1:=K1 (xs:=p) (by rw[hl];exact h0)
  rw[h] at h1
  exact Kt (Gy hl) (by rw[Lu];exact h1)
theorem Rz {K:Nat} {p:List Int} (h:Kb K p):Kb K (Vd p):=fun i=>by rw [Va];exact (h i).neg
def pps (l:List (List Int)):List (List Rn):=l.map fun p=>p.map cn
theorem Zd4 (ls:List (List Rn)) (rs:List Rn):pp ls++([.sl rs.length (pc rs)]:List AV)=pp (ls++[rs]):=by simp [pp]
def Nice (p:List Int):Prop:=Kb 500000 p∧p.length≤9∧Vm p
theorem Sh:∀ (f:Nat) (x y:List Int) (M:Nat),0<M→y.length≤x.length→x.length≤9→prim x=x→prim y=y→Kb (M-1) x→Kb (M-1) y→M*phi x.length y.length≤500000 →
  ∀ p∈Xp f x y,Nice p:=by
 intro f
 induction f with
 | zero=>intro x y M _ _ _ _ _ _ _ _ p hp;cases hp
 | succ f ih =>
  intro x y M hM h2 h3 px py kx ky hphi p hp
  simp only[Xp] at hp
  split at hp
  ·cases hp
  ·rename_i h
   obtain⟨r1,r2,r3⟩:=Hb hM (Qk px) h kx ky h2
   have hM':0<M*(x.length-y.length+2):=Nat.mul_pos hM (by omega)
   have hMle:M≤M*(x.length-y.length+2):=Nat.le_mul_of_pos_right M (by omega)
   have hb:M*1≤M*phi x.length y.length:=Nat.mul_le_mul_left _ (by unfold phi;exact Nat.mul_pos (by omega) (Nat.pow_pos (by decide)))
   rcases List.mem_cons.1 hp with rfl | hp
   ·exact⟨ky.mono (by omega),by omega,Qk py⟩
   ·exact ih y (Vd (J2 x y)) (M*(x.length-y.length+2)) hM' (by rw[Xy];omega) (by omega) py (Wb (Vn _ _ _ px)) (ky.mono (by omega)) (Rz r3) (by rw[Xy];exact Hc r2 hphi) p hp
theorem Na:∀ (f:Nat) (x y:List Int),(Xp f x y).length≤f
 | 0,_,_=>Nat.le_refl _
 | f+1,x,y=>by
  simp only[Xp]
  split
  ·simp
  ·have:=Na f y (Vd (J2 x y));simp;omega
theorem Zb5:∀ (f:Nat) (x y:List Int) (M:Nat) (ls:List (List Rn)),0<M→y.length≤f→y.length≤x.length→x.length≤9→prim x=x→prim y=y→Kb (M-1) x→Kb (M-1) y→M*phi x.length y.length≤500000→ls.length+f≤1000 →
  ∃ as' bs',Za Yir (.loop Zyw) (Zje (x.map cn) ls.length (pp ls) (y.map cn)) (.exit 0) (Zje as' (ls++pps (Xp f x y)).length (pp (ls++pps (Xp f x y))) bs'):=by
 intro f
 induction f with
 | zero =>
  intro x y M ls _ h1 _ _ _ _ _ _ _ _
  have:y=[]:=List.eq_nil_of_length_eq_zero (by omega)
  subst this
  have e:ls++pps (Xp 0 x [])=ls:=by simp[pps,Xp]
  rw[e]
  exact⟨_,_,Za.loop_out (Zqx _ _ _ _ (by simp)) (by intro e;cases e)⟩
 | succ f ih =>
  intro x y M ls hM h1 h2 h3 px py kx ky hphi hls
  simp only[Xp]
  split
  ·rename_i h
   subst h
   have e:ls++pps []=ls:=by simp[pps]
   rw[e]
   exact⟨_,_,Za.loop_out (Zqx _ _ _ _ (by simp)) (by intro e;cases e)⟩
  ·rename_i h
   have hyl:=List.length_pos_iff.2 h
   obtain⟨r1,r2,r3⟩:=Hb hM (Qk px) h kx ky h2
   have hM':0<M*(x.length-y.length+2):=Nat.mul_pos hM (by omega)
   have hMle:M≤M*(x.length-y.length+2):=Nat.le_mul_of_pos_right M (by omega)
   have hbig:M*(x.length-y.length+2)≤500000:=by
    refine Nat.le_trans (Nat.mul_le_mul_left _ ?_) hphi
    unfold phi
    exact Nat.le_mul_of_pos_right _ (Nat.pow_pos (by decide))
   have hrem:=We (rs:=x.map cn) (ss:=y.map cn) (Z1 kx) (Z1 ky) (by omega) (by omega) (by rw[List.length_map];omega) (by rw[List.length_map];omega) (by rw[Z5,py];exact h) (by
    rw[Z5,Z5,px,py,Nat.sub_add_cancel hM,show x.length+1-y.length=x.length-y.length+1 by omega,Nat.mul_comm _ M]
    have:M*(x.length-y.length+2)=M*(x.length-y.length+1)+M:=by rw[← Nat.mul_succ]
    omega)
   rw[Z5,Z5,px,py] at hrem
   have hneg:=W7 (rs:=(J2 x y).map cn) (fun r hr=>(Z1 r3 r hr).mono (by omega)) (by rw[List.length_map];omega)
   rw[Z5] at hneg
   have hneg':Ze Yir 127 [.sl ((J2 x y).map cn).length (pc ((J2 x y).map cn))] (.fresh 2 ((Vd (J2 x y)).map cn).length (pc ((Vd (J2 x y)).map cn))):=by
    have e:((Vd (J2 x y)).map cn).length=((J2 x y).map cn).length:=by rw[List.length_map,List.length_map,Xy]
    rw[e];exact hneg
   have k:=Yk96_1 (x.map cn) ls.length (pp ls) (y.map cn) _ _ (by simp;omega) (by omega) (Ve hrem) hneg'
   rw[Zd4] at k
   obtain⟨as',bs',hb⟩:=ih y (Vd (J2 x y)) (M*(x.length-y.length+2)) (ls++[y.map cn]) hM' (by rw[Xy];omega) (by rw[Xy];omega) (by omega) py (Wb (Vn _ _ _ px)) (ky.mono (by omega)) (Rz r3) (by rw[Xy];exact Hc r2 hphi) (by rw[List.length_append];simp;omega)
   have e:ls++[y.map cn]++pps (Xp f y (Vd (J2 x y)))=ls++pps (y::Xp f y (Vd (J2 x y))):=by simp[pps]
   rw[e] at hb
   have el:(ls++[y.map cn]).length=ls.length+1:=by simp
   rw[el] at hb
   exact⟨as',bs',Za.loop k hb⟩
theorem W4 {rs:List Rn} (hr:∀ r∈rs,Ju 4 r) (hn:rs.length≤9) (h0:Ql (Zi rs) ≠ []) :
  prim (Ql (Zi rs))=Ql (Zi rs)∧Kb 9 (Ql (Zi rs))∧Kb 9 (Qu (Ql (Zi rs)))∧(Ql (Zi rs)).length≤9∧(Qu (Ql (Zi rs))).length≤(Ql (Zi rs)).length-1∧(prim (Qu (Ql (Zi rs)))).length≤(Qu (Ql (Zi rs))).length ∧
  10*phi (Ql (Zi rs)).length (prim (Qu (Ql (Zi rs)))).length≤500000∧Vm (Ql (Zi rs)):=by
 have ht:Zc (Zi rs) ≠ []:=by
  intro h
  have hz:prim (Zi rs)=[]:=by rw[Un,← Xa];exact h
  apply h0
  unfold Ql;rw[hz];rfl
 obtain⟨lf,cf,_,_,_,_,_,_⟩:=N0 ht
 obtain⟨k1,k2⟩:=Zko ht (by rw[Zs];exact hn) (Du (Jf hr))
 have t1:=Qc (Zi rs)
 rw[Zs] at t1
 have k3:=R0 k1 (by omega)
 have d1:(Qu (Ql (Zi rs))).length≤(Ql (Zi rs)).length-1:=by
  unfold Qu
  have:=Qc ((List.range ((Ql (Zi rs)).length-1)).map fun j=>(Ql (Zi rs)).getD (j+1) 0*((j+1:Nat):Int))
  rwa [List.length_map,List.length_range] at this
 have d2:(prim (Qu (Ql (Zi rs)))).length≤(Qu (Ql (Zi rs))).length:=by rw[Qp];exact Qc _
 refine⟨Kt lf cf,k1.mono (by omega),k3.mono (by omega),by omega,d1,d2,?_,lf⟩
 have:=B7 (n:=(Ql (Zi rs)).length) (m:=(prim (Qu (Ql (Zi rs)))).length) (c:=9) (by omega) (by omega)
 have h3:2*3^9=39366:=by decide
 omega
theorem Sg {rs:List Rn} (hr:∀ r∈rs,Ju 4 r) (hn:rs.length≤9):∀ p∈Xo (Zi rs),Nice p:=by
 intro p hp
 unfold Xo at hp
 split at hp
 ·cases hp
 ·rename_i h0
  obtain⟨p1,k1,k2,l1,l2,l3,hphi,lf⟩:=W4 hr hn h0
  rcases List.mem_cons.1 hp with rfl | hp
  ·exact⟨k1.mono (by omega),l1,lf⟩
  ·exact Sh _ _ _ 10 (by decide) (by omega) l1 p1 (Qg _) k1 k2.prim hphi p hp
theorem Zb6 {rs:List Rn} (hr:∀ r∈rs,Ju 4 r) (hn:rs.length≤9):(Xo (Zi rs)).length≤10:=by
 unfold Xo
 split
 ·simp
 ·rename_i h0
  obtain⟨_,_,_,l1,_⟩:=W4 hr hn h0
  have:=Na (Ql (Zi rs)).length (Ql (Zi rs)) (prim (Qu (Ql (Zi rs))))
  simp;omega
theorem Zcb {rs:List Rn} (hr:∀ r∈rs,Ju 4 r) (hn:rs.length≤9):Ze Yir 96 [.sl rs.length (pc rs)] (.fresh 1 (pps (Xo (Zi rs))).length (pp (pps (Xo (Zi rs))))):=by
 have hf:=Zfr hr hn (by omega) (by decide)
 by_cases h0:Ql (Zi rs)=[]
 ·have e:Xo (Zi rs)=[]:=by unfold Xo;rw[if_pos h0]
  rw[e]
  rw[h0] at hf
  rcases hf with h | h
  ·exact Zcf rs [] (by decide) h
  ·exact Zcd rs [] (by decide) h
 ·obtain⟨p1,k1,k2,l1,l2,l3,hphi,lf⟩:=W4 hr hn h0
  have e:Xo (Zi rs)=Ql (Zi rs)::Xp (Ql (Zi rs)).length (Ql (Zi rs)) (prim (Qu (Ql (Zi rs)))):=by unfold Xo;rw[if_neg h0]
  have hd:=Di (rs:=(Ql (Zi rs)).map cn) (Z1 k1) (by omega) (by rw[List.length_map];omega)
  rw[Z5] at hd
  have hp:=Jm (rs:=(Qu (Ql (Zi rs))).map cn) (Z1 k2) (by omega) (by rw[List.length_map];omega)
  rw[Z5] at hp
  obtain⟨as',bs',hl⟩:=Zb5 (Ql (Zi rs)).length (Ql (Zi rs)) (prim (Qu (Ql (Zi rs)))) 10 [(Ql (Zi rs)).map cn] (by decide) (by omega) (by omega) l1 p1 (Qg _) k1 k2.prim hphi (by simp;omega)
  have e2:[(Ql (Zi rs)).map cn]++pps (Xp (Ql (Zi rs)).length (Ql (Zi rs)) (prim (Qu (Ql (Zi rs)))))=pps (Xo (Zi rs)):=by rw[e];simp[pps]
  rw[e2] at hl
  have c1:(((((Ql (Zi rs)).map cn).length:Nat):Int)==0)=false:=by
   rw[beq_eq_false_iff_ne,List.length_map]
   have:=List.length_pos_iff.2 h0
   omega
  rcases hf with h | h
  ·exact Zce rs _ _ _ as' bs' _ c1 h (Ve hd) (Ve hp) hl
  ·exact Zcc rs _ _ _ as' bs' _ c1 h (Ve hd) (Ve hp) hl
theorem Zec (ls:List (List Rn)) (us bs:List Rn) {n:Nat} (hn:n=ls.length+2) (hN:n≤1048576):Z3 (pp (ls++[us])++([.sl bs.length (pc bs)]:List AV)) (Int.toNat (i64.wrap ((n:Int)-2))*1) 1 true=some (.sl us.length (pc us)):=by
 have e:Int.toNat (i64.wrap ((n:Int)-2))*1=ls.length:=by rw[w64 (by omega) (by omega)];omega
 rw[e]
 simp only[Z3,if_true]
 rw[List.getElem?_append_left (by simp[pp])]
 simp[pp]
theorem Ri:∀ (f:Nat) (x y:List Int) (M:Nat) (ls:List (List Rn)),0<M→y.length≤f→y.length≤x.length→x.length≤9→prim x=x→prim y=y→Kb (M-1) x→Kb (M-1) y→M*phi x.length y.length≤500000→ls.length+f≤1000 →
  ∃ bs',Za Yir (.loop Zis) (L5 (ls.length+1) (pp (ls++[x.map cn])) (y.map cn)) (.exit 0) (L5 (ls++[x.map cn]++pps (Xp f x y)).length (pp (ls++[x.map cn]++pps (Xp f x y))) bs'):=by
 intro f
 induction f with
 | zero =>
  intro x y M ls _ h1 _ _ _ _ _ _ _ _
  have:y=[]:=List.eq_nil_of_length_eq_zero (by omega)
  subst this
  have e:ls++[x.map cn]++pps (Xp 0 x [])=ls++[x.map cn]:=by simp[pps,Xp]
  rw[e,List.length_append]
  exact⟨_,Za.loop_out (Zhs _ _ _ (by simp)) (by intro e;cases e)⟩
 | succ f ih =>
  intro x y M ls hM h1 h2 h3 px py kx ky hphi hls
  simp only[Xp]
  split
  ·rename_i h
   subst h
   have e:ls++[x.map cn]++pps []=ls++[x.map cn]:=by simp[pps]
   rw[e,List.length_append]
   exact⟨_,Za.loop_out (Zhs _ _ _ (by simp)) (by intro e;cases e)⟩
  ·rename_i h
   have hyl:=List.length_pos_iff.2 h
   obtain⟨r1,r2,r3⟩:=Hb hM (Qk px) h kx ky h2
   have hM':0<M*(x.length-y.length+2):=Nat.mul_pos hM (by omega)
   have hMle:M≤M*(x.length-y.length+2):=Nat.le_mul_of_pos_right M (by omega)
   have hbig:M*(x.length-y.length+2)≤500000:=by
    refine Nat.le_trans (Nat.mul_le_mul_left _ ?_) hphi
    unfold phi
    exact Nat.le_mul_of_pos_right _ (Nat.pow_pos (by decide))
   have hrem:=B1 (rs:=x.map cn) (ss:=y.map cn) (Z1 kx) (Z1 ky) (by omega) (by omega) (by rw[List.length_map];omega) (by rw[List.length_map];omega) (by rw[Z5,Qk py];exact h) (by
    rw[Z5,Z5,Qk px,Qk py,Nat.sub_add_cancel hM,show x.length+1-y.length=x.length-y.length+1 by omega,Nat.mul_comm _ M]
    have:M*(x.length-y.length+2)=M*(x.length-y.length+1)+M:=by rw[← Nat.mul_succ]
    omega)
   rw[Z5,Z5,px,py] at hrem
   have hneg:=T6 (rs:=(J2 x y).map cn) (fun r hr=>(Z1 r3 r hr).mono (by omega)) (by rw[List.length_map];omega)
   rw[Z5,Gy r1] at hneg
   have hls1:(ls++[x.map cn]).length=ls.length+1:=by simp
   have e2:i64.wrap ((((ls.length+1+1):Nat):Int)-2)=(ls.length:Int):=by rw[w64 (by omega) (by omega)];omega
   have k:=Zur (ls.length+1) (pp (ls++[x.map cn])) (y.map cn) (x.map cn) ((J2 x y).map cn) _ (by simp;omega) (by omega) (by rw[e2];omega) (Zec ls (x.map cn) (y.map cn) (by omega) (by omega)) hrem (Ve hneg)
   rw[Zd4] at k
   obtain⟨bs',hb⟩:=ih y (Vd (J2 x y)) (M*(x.length-y.length+2)) (ls++[x.map cn]) hM' (by rw[Xy];omega) (by rw[Xy];omega) (by omega) py (Wb (Vn _ _ _ px)) (ky.mono (by omega)) (Rz r3) (by rw[Xy];exact Hc r2 hphi) (by rw[hls1];omega)
   have e:ls++[x.map cn]++[y.map cn]++pps (Xp f y (Vd (J2 x y)))=ls++[x.map cn]++pps (y::Xp f y (Vd (J2 x y))):=by simp[pps]
   rw[e,hls1] at hb
   exact⟨bs',Za.loop k hb⟩
theorem Zbm {rs:List Rn} (hr:∀ r∈rs,Ju 4 r) (hn:rs.length≤9):Ze Yir 136 [.sl rs.length (pc rs)] (.fresh 1 (pps (Xo (Zi rs))).length (pp (pps (Xo (Zi rs))))):=by
 have hf:=Rg hr hn (by omega) (by decide)
 by_cases h0:Ql (Zi rs)=[]
 ·have e:Xo (Zi rs)=[]:=by unfold Xo;rw[if_pos h0]
  rw[e]
  rw[h0] at hf
  exact Zge rs [] (by decide) hf
 ·obtain⟨p1,k1,k2,l1,l2,l3,hphi,lf⟩:=W4 hr hn h0
  have e:Xo (Zi rs)=Ql (Zi rs)::Xp (Ql (Zi rs)).length (Ql (Zi rs)) (prim (Qu (Ql (Zi rs)))):=by unfold Xo;rw[if_neg h0]
  have hd:=T7 (rs:=(Ql (Zi rs)).map cn) (Z1 k1) (by omega) (by rw[List.length_map];omega)
  rw[Z5] at hd
  have hp:=Vs (rs:=(Qu (Ql (Zi rs))).map cn) (Z1 k2) (by omega) (by rw[List.length_map];omega)
  rw[Z5] at hp
  obtain⟨bs',hl⟩:=Ri (Ql (Zi rs)).length (Ql (Zi rs)) (prim (Qu (Ql (Zi rs)))) 10 [] (by decide) (by omega) (by omega) l1 p1 (Qg _) k1 k2.prim hphi (by simp;omega)
  have e2:[]++[(Ql (Zi rs)).map cn]++pps (Xp (Ql (Zi rs)).length (Ql (Zi rs)) (prim (Qu (Ql (Zi rs)))))=pps (Xo (Zi rs)):=by rw[e];simp[pps]
  rw[e2] at hl
  have c1:(((((Ql (Zi rs)).map cn).length:Nat):Int)==0)=false:=by
   rw[beq_eq_false_iff_ne,List.length_map]
   have:=List.length_pos_iff.2 h0
   omega
  exact Zgd rs _ _ _ bs' _ c1 hf (Ve hd) (Ve hp) hl
def Zjn (x:Int × Int) (s:Int):Int × Int:=(if s ≠ 0∧x.2 ≠ 0∧s ≠ x.2 then x.1+1 else x.1,if s ≠ 0 then s else x.2)
def P6 (l:List (List Int)) (N:Int) (e:Nat) (i:Nat):Int:=Xh (hv (l.getD i []) N (2^e))
def Xb (l:List (List Int)) (N:Int) (e:Nat):Nat→Int × Int
 | 0=>(0,0)
 | i+1=>Zjn (Xb l N e i) (P6 l N e i)
theorem Nm (l:List (List Int)) (N:Int) (e:Nat):∀ i:Nat,0≤(Xb l N e i).1∧(Xb l N e i).1≤(i:Int)
 | 0=>by simp[Xb]
 | i+1=>by
  have:=Nm l N e i
  simp only[Xb,Zjn]
  split <;> omega
theorem T9 {l:List (List Int)} {i:Nat} (h:i<l.length):(pps l).getD i []=(l.getD i []).map cn:=by
 unfold pps
 rw[List.getD_eq_getElem?_getD,List.getElem?_map,List.getD_eq_getElem?_getD,List.getElem?_eq_getElem h];rfl
theorem Ro (l:List (List Int)):(pps l).length=l.length:=List.length_map ..
section
variable {l:List (List Int)} {r:Rn} (hl:∀ p∈l,Nice p) (hr:Ju 8 r) (hN:l.length≤100) (e:Nat) (he:e≤300)
include hl hr he
theorem at_run {i:Nat} (hi:i<l.length):Ze Yir 78 [.sl ((pps l).getD i []).length (pc ((pps l).getD i [])), .agg [.bool r.1, .sl r.2.length (lm r.2), .int .i64 (e:Nat)]] (.int .i64 (P6 l (Zn r) e i)):=by
 rw[T9 hi]
 have hm:l.getD i []∈l:=by rw[List.getD_eq_getElem?_getD,List.getElem?_eq_getElem hi];exact List.getElem_mem hi
 obtain⟨h1,h2,h3⟩:=hl _ hm
 have h:=Sj (rs:=(l.getD i []).map cn) (Z1 h1) hr e (by
  rw[List.length_map]
  have h4:((l.getD i []).length+1)*(8+(e / 32+1)+1)≤10*20:=Nat.mul_le_mul (by omega) (by omega)
  omega) (by omega)
 rw[Z5] at h
 exact h
theorem Zj8 {i:Nat} (hi:i<l.length):∃ w:Int,Ze Yir 82 [.sl ((pps l).getD i []).length (pc ((pps l).getD i [])), .agg [.bool r.1, .sl r.2.length (lm r.2)], .int .i64 (e:Nat)] (Zl w)∧Ze Yir 81 [Zl w] (.int .i64 (P6 l (Zn r) e i)):=by
 rw[T9 hi]
 have hm:l.getD i []∈l:=by rw[List.getD_eq_getElem?_getD,List.getElem?_eq_getElem hi];exact List.getElem_mem hi
 obtain⟨h1,h2,h3⟩:=hl _ hm
 have hS:500000+2+(((l.getD i []).map cn).length+1)*(8+(e / 32+1)+1)≤1048576:=by
  rw[List.length_map]
  have h4:((l.getD i []).length+1)*(8+(e / 32+1)+1)≤10*20:=Nat.mul_le_mul (by omega) (by omega)
  omega
 have h:=Zbh (rs:=(l.getD i []).map cn) (Z1 h1) hr e hS (by omega)
 rw[Z5,h3] at h
 have hf:=Zey (K:=500000) hr.fits e (ts:=l.getD i []) h1.mem
 have hlen:(l.getD i []).length*(8+(e / 32+1)+1)≤9*20:=Nat.mul_le_mul (by omega) (by omega)
 exact⟨_,h,Zjw (n:=hv (l.getD i []) (Zn r) (2^e)) (by have:=hf.len;omega)⟩
theorem Av (hN:l.length≤100):Ze Yir 100 [.sl (pps l).length (pp (pps l)), .agg [.bool r.1, .sl r.2.length (lm r.2), .int .i64 (e:Nat)]] (.int .i64 (Xb l (Zn r) e l.length).1):=by
 have hpl:=Ro l
 have h:=Za.up (prog:=Yir) (c:=Pt) (ex := .exit 0) (fin:=Fd (pps l) r (e:Nat) (Xb l (Zn r) e l.length).1 (Xb l (Zn r) e l.length).2 (((pps l).length:Nat):Int) (l.length:Nat))
  (fun i=>Fd (pps l) r (e:Nat) (Xb l (Zn r) e i).1 (Xb l (Zn r) e i).2 (((pps l).length:Nat):Int) (i:Nat)) l.length (by intro e;cases e) ?_ ?_ 0 (Nat.zero_le _)
 ·exact Zs2 (pps l) r (e:Nat) _ _ _ h
 ·intro i hi
  have ei:i64.wrap ((i:Int)+1)=((i+1:Nat):Int):=by rw[w64 (by omega) (by omega)];omega
  have hs:=at_run hl hr e he hi
  have hb:=Nm l (Zn r) e i
  have w1:i64.wrap ((Xb l (Zn r) e i).1+1)=(Xb l (Zn r) e i).1+1:=w64 (by omega) (by omega)
  have c1:decide ((i:Int)<(((pps l).length:Nat):Int))=true:=by rw[decide_eq_true_eq];omega
  simp only[Xb,Zjn]
  by_cases g1:P6 l (Zn r) e i=0
  ·rw[if_neg (fun h=>h.1 g1),if_neg (fun h=>h g1)]
   have k:=Zvg (pps l) r (e:Nat) (Xb l (Zn r) e i).1 (Xb l (Zn r) e i).2 (((pps l).length:Nat):Int) (i:Nat) (P6 l (Zn r) e i) c1 (by rw[bne_eq_false_iff_eq];exact g1) (by omega) (by rw[Int.toNat_natCast];exact hs)
   rwa [ei] at k
  ·by_cases g2:(Xb l (Zn r) e i).2=0
   ·rw[if_neg (fun h=>h.2.1 g2),if_pos g1]
    have k:=Zvh (pps l) r (e:Nat) (Xb l (Zn r) e i).1 (Xb l (Zn r) e i).2 (((pps l).length:Nat):Int) (i:Nat) (P6 l (Zn r) e i) c1 (by rw[bne_iff_ne];exact g1) (by rw[bne_eq_false_iff_eq];exact g2) (by omega) (by rw[Int.toNat_natCast];exact hs)
    rwa [ei] at k
   ·by_cases g3:P6 l (Zn r) e i=(Xb l (Zn r) e i).2
    ·rw[if_neg (fun h=>h.2.2 g3),if_pos g1]
     have k:=Zvi (pps l) r (e:Nat) (Xb l (Zn r) e i).1 (Xb l (Zn r) e i).2 (((pps l).length:Nat):Int) (i:Nat) (P6 l (Zn r) e i) c1 (by rw[bne_iff_ne];exact g1) (by rw[bne_iff_ne];exact g2) (by rw[bne_eq_false_iff_eq];exact g3) (by omega) (by rw[Int.toNat_natCast];exact hs)
     rwa [ei] at k
    ·rw[if_pos ⟨g1,g2,g3⟩,if_pos g1]
     have k:=Zvj (pps l) r (e:Nat) (Xb l (Zn r) e i).1 (Xb l (Zn r) e i).2 (((pps l).length:Nat):Int) (i:Nat) (P6 l (Zn r) e i) c1 (by rw[bne_iff_ne];exact g1) (by rw[bne_iff_ne];exact g2) (by rw[bne_iff_ne];exact g3) (by omega) (by rw[Int.toNat_natCast];exact hs)
     rwa [ei,w1] at k
 ·exact Zvf (pps l) r _ _ _ _ _ (by rw[decide_eq_false_iff_not];omega)
theorem Tq (hN:l.length≤100):Ze Yir 137 [.sl (pps l).length (pp (pps l)), .agg [.bool r.1, .sl r.2.length (lm r.2), .int .i64 (e:Nat)]] (.int .i64 (Xb l (Zn r) e l.length).1):=by
 have hpl:=Ro l
 have h:=Za.up (prog:=Yir) (c:=Pq) (ex := .exit 0) (fin:=Fc (pps l) r (e:Nat) (Xb l (Zn r) e l.length).1 (Xb l (Zn r) e l.length).2 (l.length:Nat))
  (fun i=>Fc (pps l) r (e:Nat) (Xb l (Zn r) e i).1 (Xb l (Zn r) e i).2 (i:Nat)) l.length (by intro e;cases e) ?_ ?_ 0 (Nat.zero_le _)
 ·exact Zsj (pps l) r (e:Nat) _ _ _ h
 ·intro i hi
  have ei:i64.wrap ((i:Int)+1)=((i+1:Nat):Int):=by rw[w64 (by omega) (by omega)];omega
  obtain⟨w,hs,hs2⟩:=Zj8 hl hr e he hi
  have hb:=Nm l (Zn r) e i
  have w1:i64.wrap ((Xb l (Zn r) e i).1+1)=(Xb l (Zn r) e i).1+1:=w64 (by omega) (by omega)
  have c1:decide ((i:Int)<(((pps l).length:Nat):Int))=true:=by rw[decide_eq_true_eq];omega
  simp only[Xb,Zjn]
  by_cases g1:P6 l (Zn r) e i=0
  ·rw[if_neg (fun h=>h.1 g1),if_neg (fun h=>h g1)]
   have k:=Zun (pps l) r (e:Nat) (Xb l (Zn r) e i).1 (Xb l (Zn r) e i).2 (i:Nat) w (P6 l (Zn r) e i) c1 (by rw[bne_eq_false_iff_eq];exact g1) (by omega) (by rw[Int.toNat_natCast];exact hs) hs2
   rwa [ei] at k
  ·by_cases g2:(Xb l (Zn r) e i).2=0
   ·rw[if_neg (fun h=>h.2.1 g2),if_pos g1]
    have k:=Zuo (pps l) r (e:Nat) (Xb l (Zn r) e i).1 (Xb l (Zn r) e i).2 (i:Nat) w (P6 l (Zn r) e i) c1 (by rw[bne_iff_ne];exact g1) (by rw[bne_eq_false_iff_eq];exact g2) (by omega) (by rw[Int.toNat_natCast];exact hs) hs2
    rwa [ei] at k
   ·by_cases g3:P6 l (Zn r) e i=(Xb l (Zn r) e i).2
    ·rw[if_neg (fun h=>h.2.2 g3),if_pos g1]
     have k:=Zup (pps l) r (e:Nat) (Xb l (Zn r) e i).1 (Xb l (Zn r) e i).2 (i:Nat) w (P6 l (Zn r) e i) c1 (by rw[bne_iff_ne];exact g1) (by rw[bne_iff_ne];exact g2) (by rw[bne_eq_false_iff_eq];exact g3) (by omega) (by rw[Int.toNat_natCast];exact hs) hs2
     rwa [ei] at k
    ·rw[if_pos ⟨g1,g2,g3⟩,if_pos g1]
     have k:=Zuq (pps l) r (e:Nat) (Xb l (Zn r) e i).1 (Xb l (Zn r) e i).2 (i:Nat) w (P6 l (Zn r) e i) c1 (by rw[bne_iff_ne];exact g1) (by rw[bne_iff_ne];exact g2) (by rw[bne_iff_ne];exact g3) (by omega) (by rw[Int.toNat_natCast];exact hs) hs2
     rwa [ei,w1] at k
 ·exact Zum (pps l) r _ _ _ _ (by rw[decide_eq_false_iff_not];omega)
end
end Go.Proofs.Ythnnfemologhfaa

namespace Go.Proofs.Ythnnfemologhfaa
open Go.IntKind (i64 u64 u32)
open Go.Ai
set_option maxRecDepth 100000
theorem Zkt (rs:List Rn):Ze Yir 48 [.sl rs.length (pc rs)] (.bool (fewB 9 4 rs)):=by
 unfold fewB
 by_cases h10:rs.length≤9
 ·rw[decide_eq_true h10,Bool.true_and]
  have c1:decide ((rs.length:Int)>9)=false:=by rw[decide_eq_false_iff_not];omega
  have step:∀ t:Nat,t<rs.length→(rs.getD t z0).2.length≤4→Za Yir Zpy (Za0 false rs (t:Nat)) .norm (Za0 false rs ((t+1:Nat):Int)):=by
   intro t ht hb
   have ei:i64.wrap ((t:Int)+1)=((t+1:Nat):Int):=by rw[w64 (by omega) (by omega)];omega
   have k2:=Yk48_2 false rs (t:Nat) (by simp;omega) (by rw[Int.toNat_natCast,decide_eq_false_iff_not];omega) (by omega)
   rwa [ei] at k2
  rcases Hh (fun j => !decide ((rs.getD j z0).2.length≤4)) rs.length _ 0 (by rw[Nat.zero_add]) with h | ⟨j,_,h2,h3,h4⟩
  ·have hall:(rs.all fun r=>decide (r.2.length≤4))=true:=by
    rw[List.all_eq_true]
    intro r hr
    obtain⟨i,hi,rfl⟩:=List.mem_iff_getElem.1 hr
    have:=h i (by omega) hi
    rw[List.getD_eq_getElem?_getD,List.getElem?_eq_getElem hi] at this
    simpa using this
   rw[hall]
   exact Zcj rs _ c1 (Za.upTo (prog:=Yir) (c:=Zpy) (ex := .exit 0) (fun t=>Za0 false rs (t:Nat)) rs.length (by intro e;cases e) (Yk48_3 false rs _ (by simp)) 0 (Nat.zero_le _) (fun t _ h6=>step t h6 (by simpa using h t (by omega) h6)))
  ·have hall:(rs.all fun r=>decide (r.2.length≤4))=false:=by
    rw[List.all_eq_false]
    refine⟨rs.getD j z0,?_,by simpa using h3⟩
    rw[List.getD_eq_getElem?_getD,List.getElem?_eq_getElem h2]
    exact List.getElem_mem h2
   rw[hall]
   have h3':¬ (rs.getD j z0).2.length≤4:=by simpa using h3
   have out:=Yk48_1 false rs (j:Nat) (by simp;omega) (by rw[Int.toNat_natCast,decide_eq_true_eq];omega) (by omega)
   exact Zck rs _ c1 (Za.upTo (prog:=Yir) (c:=Zpy) (ex := .ret) (fun t=>Za0 false rs (t:Nat)) j (by intro e;cases e) out 0 (Nat.zero_le _) (fun t _ h6=>step t (by omega) (by simpa using h4 t (by omega) h6)))
 ·rw[decide_eq_false h10,Bool.false_and]
  exact Zcl rs (by rw[decide_eq_true_eq];omega)
theorem E9 {p:List Int}:Xo p=[]↔Zc p=[]:=by
 constructor
 ·intro h
  apply Classical.byContradiction
  intro h1
  obtain⟨_,_,_,h2,_⟩:=N0 h1
  unfold Xo at h
  rw[if_neg h2] at h
  cases h
 ·intro h
  have hz:prim p=[]:=by rw[Un,← Xa];exact h
  have e:Ql p=[]:=by unfold Ql;rw[hz];rfl
  unfold Xo
  rw[if_pos e]
section
variable {r t:Rn} (hr:Ju 8 r) (ht:Ju 8 t)
include hr ht
theorem N9 {a b:Nat} (ha:a≤4096) (hb:b≤4096):Ze Yir 98 [dyR r (a:Nat),dyR t (b:Nat)] (.int .i64 (Uu (Zn r*2^b) (Zn t*2^a)))∧Ze Yir 102 [dyR r (a:Nat),dyR t (b:Nat)] (.int .i64 (Uu (Zn r*2^b) (Zn t*2^a))):=by
 obtain⟨x1,_,x3⟩:=Nq hr (n:=max a b-a) (by omega)
 obtain⟨y1,_,y3⟩:=Nq ht (n:=max a b-b) (by omega)
 obtain⟨_,x2,x4⟩:=Nq hr (n:=b) hb
 obtain⟨_,y2,y4⟩:=Nq ht (n:=a) ha
 have g1:=Q5 x3
 have g2:=Q5 y3
 have g3:=Q5 x4
 have g4:=Q5 y4
 have p:=Zjk (na:=(cn (Zn r*2^(max a b-a))).1) (nb:=(cn (Zn t*2^(max a b-b))).1) g1.1 g2.1 (by have:=g1.2;omega) (by have:=g2.2;omega)
 have q:=Zj7 (na:=(cn (Zn r*2^b)).1) (nb:=(cn (Zn t*2^a)).1) g3.1 g4.1 (by have:=g3.2;omega) (by have:=g4.2;omega)
 rw[show ∀ n,rv (cn n).1 (cn n).2=n from Z9,show ∀ n,rv (cn n).1 (cn n).2=n from Z9,Zrw] at p
 rw[show ∀ n,rv (cn n).1 (cn n).2=n from Z9,show ∀ n,rv (cn n).1 (cn n).2=n from Z9] at q
 exact⟨Yrun98 r t (a:Nat) (b:Nat) _ _ _ (by rw[Zkg ha hb];exact x1) (by rw[Zkf ha hb];exact y1) p,Zs1 r t (a:Nat) (b:Nat) _ _ _ x2 y2 q⟩
theorem Zb3 {rs:List Rn} (hp:∀ p∈rs,Ju 4 p) (hn:rs.length≤9) {e f:Int} (he:e≤300) (hf:f≤300):∃ x h:Int,Ze Yir 50 [.sl rs.length (pc rs),dyR r e,dyR t f] (.tup [.int .i64 x, .int .i64 h])∧Ze Yir 51 [.sl rs.length (pc rs),dyR r e,dyR t f] (.tup [.int .i64 x, .int .i64 h]):=by
 have v1:=Mp (e:=e) (hr.mono (show 8≤200 by omega))
 have v2:=Mp (e:=f) (ht.mono (show 8≤200 by omega))
 have w1:=Em (e:=e) (hr.mono (show 8≤200 by omega))
 have w2:=Em (e:=f) (ht.mono (show 8≤200 by omega))
 have hpr:=Yrun34 rs _ (large1 hp (by omega) (by omega)) (Ve (Jm hp (by omega) (by omega)))
 have hlg:=Nw hp (by omega) (by omega)
 have hch:=Zcb hp hn
 have hsq:=Zbm hp hn
 have hlen:=Zb6 hp hn
 have hnice:=Sg hp hn
 have hdeg:=My (rs:=rs) (fun r h=>(hp r h).mono (by omega)) (by omega)
 have hpl:=Ro (Xo (Zi rs))
 have z0':((0:Int) != 0)=false:=rfl
 by_cases h0:Zc (Zi rs)=[]
 ·have hc:=E9.2 h0
  have hz:(Zc (Zi rs)).length=0:=by rw[h0];rfl
  refine⟨0,3,Zl5 rs _ _ r t e f 0 z0' (by rw[hc];rfl) hpr hch,Zl0 rs r t e f _ false rfl (by rw[decide_eq_true_eq];omega) hlg hdeg⟩
 ·have hc:Xo (Zi rs) ≠ []:=fun h=>h0 (E9.1 h)
  have hc1:=List.length_pos_iff.2 hc
  have hd1:=List.length_pos_iff.2 h0
  have n1:((((pps (Xo (Zi rs))).length:Nat):Int)==0)=false:=by rw[beq_eq_false_iff_ne];omega
  have n2:decide ((((Zc (Zi rs)).length:Nat)-1:Int)<0)=false:=by rw[decide_eq_false_iff_not];omega
  cases c1:vE e with
  | false =>
   rw[c1] at v1 w1
   exact⟨0,1,Zl1 rs _ _ r t e f 0 false z0' n1 rfl hpr hch v1,Zlw rs r t e f _ false false rfl n2 rfl hlg hdeg w1⟩
  | true =>
   cases c2:vE f with
   | false =>
    rw[c1] at v1 w1
    rw[c2] at v2 w2
    exact⟨0,1,Zl2 rs _ _ r t e f 0 true false z0' n1 rfl rfl hpr hch v1 v2,Zlx rs r t e f _ false true false rfl n2 rfl rfl hlg hdeg w1 w2⟩
   | true =>
    obtain⟨a,rfl,ha⟩:=Zp0 c1
    obtain⟨b,rfl,hb⟩:=Zp0 c2
    rw[c1] at v1 w1
    rw[c2] at v2 w2
    obtain⟨m1,m2⟩:=N9 hr ht ha hb
    generalize Uu (Zn r*2^b) (Zn t*2^a)=c at *
    by_cases c3:c>0
    ·exact⟨0,1,Zl4 rs _ _ r t _ _ 0 c true true z0' n1 rfl rfl (decide_eq_true c3) hpr hch v1 v2 m1,Zlz rs r t _ _ _ c false true true rfl n2 rfl rfl (decide_eq_true c3) hlg hdeg w1 w2 m2⟩
    ·have a1:=Av hnice hr a (by omega) (by omega)
     have a2:=Av hnice ht b (by omega) (by omega)
     have b1:=Tq hnice hr a (by omega) (by omega)
     have b2:=Tq hnice ht b (by omega) (by omega)
     have k1:=Zqv _ r (a:Nat) _ a1
     have k2:=Zqv _ t (b:Nat) _ a2
     have q:=Zs0 rs _ r t (a:Nat) (b:Nat) _ _ hsq b1 b2
     exact⟨_,0,Zl3 rs _ _ r t _ _ 0 c _ _ true true z0' n1 rfl rfl (decide_eq_false c3) hpr hch v1 v2 m1 k1 k2,Zly rs r t _ _ _ c _ false true true rfl n2 rfl rfl (decide_eq_false c3) hlg hdeg w1 w2 m2 q⟩
end
theorem Zrv {rs:List Rn} {r t:Rn} (e f:Int) (hp:∀ r∈rs,U32 r.2) (hr:U32 r.2) (ht:U32 t.2):Ze Yir 9 [.sl rs.length (pc rs), .agg [.bool r.1, .sl r.2.length (lm r.2), .int .i64 e], .agg [.bool t.1, .sl t.2.length (lm t.2), .int .i64 f]] (.bool true):=by
 have haw:=Yrun47
 have hfw:=Zkt rs
 have s1:=Zqw r e
 have s2:=Zqw t f
 cases b1:fewB 9 4 rs with
 | false=>rw[b1] at hfw;exact Zr4 rs r t e f false rfl haw hfw
 | true =>
  rw[b1] at hfw
  obtain⟨hn,hg⟩:=Zks b1 hp
  by_cases c1:(r.2.length:Int)≤8
  ·rw[decide_eq_true c1] at s1
   by_cases c2:(t.2.length:Int)≤8
   ·rw[decide_eq_true c2] at s2
    by_cases c3:e>300
    ·exact Zr9 rs r t e f true true true rfl rfl rfl (decide_eq_true c3) haw hfw s1 s2
    ·by_cases c4:f>300
     ·exact Zr8 rs r t e f true true true rfl rfl rfl (decide_eq_false c3) (decide_eq_true c4) haw hfw s1 s2
     ·obtain⟨x,h,x1,x2⟩:=Zb3 (r:=r) (t:=t) ⟨hr,by omega⟩ ⟨ht,by omega⟩ hg hn (e:=e) (f:=f) (by omega) (by omega)
      have k:=Zr7 rs r t e f x h true true true (beq_self_eq_true _) rfl rfl rfl (decide_eq_false c3) (decide_eq_false c4) haw hfw s1 s2 x1 x2
      rwa [beq_self_eq_true] at k
   ·rw[decide_eq_false c2] at s2
    exact Zr6 rs r t e f true true false rfl rfl rfl haw hfw s1 s2
  ·rw[decide_eq_false c1] at s1
   exact Zr5 rs r t e f true false rfl rfl haw hfw s1
end Go.Proofs.Ythnnfemologhfaa
