/- The package algebra: sums, differences, products. -/
import Derived.Test.YthakfjlnhldehaaAlgA
import Derived.Test.YthakfjlnhldehaaPolyz
namespace Go.Proofs.Ythakfjlnhldehaa
open Go.Ai
set_option maxRecDepth 100000

def Try.c65 : ICode := .seq (.region false [oB 22 .lss 21 20])
  (.seq (.cond (.t 22) (.skip)
  (.exit 0))
  (.seq (.block 1 (.seq (.region false [oM 23 21,
   oM 8 23])
  (.seq (.seq (.region false [oM 24 8,
   oM 25 5,
   oB 26 .lss 24 25])
  (.cond (.t 26) (.region false [o1 27 (.cpy 7),
   oM 28 8,
   oM 29 0,
   oM 30 8,
   o1 31 (.ixa 29 (.t 30) 2),
   o1 32 (.ld 31 31 2 false),
   o1 33 (.ixo 27 7 (.t 28) 2),
   oN (.st 33 7 2 (.t 32))])
  (.skip)))
  (.seq (.region false [oM 34 8,
   oM 35 6,
   oB 36 .lss 34 35])
  (.cond (.t 36) (.region true [o1 37 (.cpy 7),
   oM 38 8,
   o1 39 (.cpy 7),
   oM 40 8,
   o1 41 (.ixo 39 7 (.t 40) 2),
   o1 42 (.ld 41 7 2 false),
   oM 43 1,
   oM 44 8,
   o1 45 (.ixa 43 (.t 44) 2),
   o1 46 (.ld 45 45 2 false),
   oC 47 83 [42, 46],
   o1 48 (.ixo 37 7 (.t 38) 2),
   oN (.st 48 7 2 (.t 47))])
  (.skip))))))
  (.region false [o1 49 (.bin .add (.t 21) (.c (.int .i64 1))),
   oM 21 49])))
def Try.s65 (rs : List Rn) (ss : List Rn) (n : Int) (m : Int) (k : Nat) (os : List Rn) (l : Int) (i : Int) : State := (.val (.sl rs.length (pc rs)) :: (.val (.sl ss.length (pc ss)) :: (dds 3 (.val (.int .i64 n) :: (.val (.int .i64 m) :: (.own 2 k (pc os) :: (dds 12 (.val (.int .i64 l) :: (.val (.int .i64 i) :: (dds 30 []))))))))))
theorem Try.k65_1 (rs : List Rn) (ss : List Rn) (n : Int) (m : Int) (k : Nat) (os : List Rn) (l : Int) (i : Int)  (c1 : (decide (i < l)) = true)
    (c2 : (decide (i < n)) = true)
    (c3 : (decide (i < m)) = true)
    (n1 : 0 ≤ i ∧ i < ((rs.length : Nat) : Int))
    (n2 : 0 ≤ i ∧ i < ((k : Nat) : Int))
    (n3 : os.length = k)
    (n4 : (os.set (Int.toNat i) (rs.getD (Int.toNat i) z0)).length = k)
    (n5 : 0 ≤ i ∧ i < ((ss.length : Nat) : Int))
    (n6 : Runs Try.ir 83 [.agg [.bool (((os.set (Int.toNat i) (rs.getD (Int.toNat i) z0)).getD (Int.toNat i) z0).1), .sl (((os.set (Int.toNat i) (rs.getD (Int.toNat i) z0)).getD (Int.toNat i) z0).2.length) (lm ((os.set (Int.toNat i) (rs.getD (Int.toNat i) z0)).getD (Int.toNat i) z0).2)], .agg [.bool ((ss.getD (Int.toNat i) z0).1), .sl ((ss.getD (Int.toNat i) z0).2.length) (lm (ss.getD (Int.toNat i) z0).2)]] (.agg [.bool (decide (((rval ((os.set (Int.toNat i) (rs.getD (Int.toNat i) z0)).getD (Int.toNat i) z0)) + (rval (ss.getD (Int.toNat i) z0))) < 0)), .sl ((limbs (Int.natAbs ((rval ((os.set (Int.toNat i) (rs.getD (Int.toNat i) z0)).getD (Int.toNat i) z0)) + (rval (ss.getD (Int.toNat i) z0))))).length) (lm (limbs (Int.natAbs ((rval ((os.set (Int.toNat i) (rs.getD (Int.toNat i) z0)).getD (Int.toNat i) z0)) + (rval (ss.getD (Int.toNat i) z0))))))])) : RunsW Try.ir Try.c65 (Try.s65 rs ss n m k os l i) .norm (Try.s65 rs ss n m k ((os.set (Int.toNat i) (rs.getD (Int.toNat i) z0)).set (Int.toNat i) (cn ((rval ((os.set (Int.toNat i) (rs.getD (Int.toNat i) z0)).getD (Int.toNat i) z0)) + (rval (ss.getD (Int.toNat i) z0))))) l (IntKind.i64.wrap (i + 1))) :=
  (RunsW.script (t := (.val (.sl rs.length (pc rs)) :: (.val (.sl ss.length (pc ss)) :: (dds 3 (.val (.int .i64 n) :: (.val (.int .i64 m) :: (.own 2 k (pc ((os.set (Int.toNat i) (rs.getD (Int.toNat i) z0)).set (Int.toNat i) (cn ((rval ((os.set (Int.toNat i) (rs.getD (Int.toNat i) z0)).getD (Int.toNat i) z0)) + (rval (ss.getD (Int.toNat i) z0)))))) :: (dds 12 (.val (.int .i64 l) :: (.val (.int .i64 (IntKind.i64.wrap (i + 1))) :: (dds 30 []))))))))))) (ex := .norm) (ps := [(decide (i < l)) = true, (decide (i < n)) = true, 0 ≤ i ∧ i < ((rs.length : Nat) : Int), takeA (List.drop (Int.toNat i * 2) (pc rs)) 0 2 false = some (.agg [.bool ((rs.getD (Int.toNat i) z0).1), .sl ((rs.getD (Int.toNat i) z0).2.length) (lm (rs.getD (Int.toNat i) z0).2)]), 0 ≤ i ∧ i < ((k : Nat) : Int), layA (pc os) (Int.toNat i * 2) [.bool ((rs.getD (Int.toNat i) z0).1), .sl ((rs.getD (Int.toNat i) z0).2.length) (lm (rs.getD (Int.toNat i) z0).2)] = some (pc (os.set (Int.toNat i) (rs.getD (Int.toNat i) z0))), (decide (i < m)) = true, 0 ≤ i ∧ i < ((k : Nat) : Int), takeA (pc (os.set (Int.toNat i) (rs.getD (Int.toNat i) z0))) (Int.toNat i * 2) 2 false = some (.agg [.bool (((os.set (Int.toNat i) (rs.getD (Int.toNat i) z0)).getD (Int.toNat i) z0).1), .sl (((os.set (Int.toNat i) (rs.getD (Int.toNat i) z0)).getD (Int.toNat i) z0).2.length) (lm ((os.set (Int.toNat i) (rs.getD (Int.toNat i) z0)).getD (Int.toNat i) z0).2)]), 0 ≤ i ∧ i < ((ss.length : Nat) : Int), takeA (List.drop (Int.toNat i * 2) (pc ss)) 0 2 false = some (.agg [.bool ((ss.getD (Int.toNat i) z0).1), .sl ((ss.getD (Int.toNat i) z0).2.length) (lm (ss.getD (Int.toNat i) z0).2)]), Runs Try.ir 83 [.agg [.bool (((os.set (Int.toNat i) (rs.getD (Int.toNat i) z0)).getD (Int.toNat i) z0).1), .sl (((os.set (Int.toNat i) (rs.getD (Int.toNat i) z0)).getD (Int.toNat i) z0).2.length) (lm ((os.set (Int.toNat i) (rs.getD (Int.toNat i) z0)).getD (Int.toNat i) z0).2)], .agg [.bool ((ss.getD (Int.toNat i) z0).1), .sl ((ss.getD (Int.toNat i) z0).2.length) (lm (ss.getD (Int.toNat i) z0).2)]] (.agg [.bool (decide (((rval ((os.set (Int.toNat i) (rs.getD (Int.toNat i) z0)).getD (Int.toNat i) z0)) + (rval (ss.getD (Int.toNat i) z0))) < 0)), .sl ((limbs (Int.natAbs ((rval ((os.set (Int.toNat i) (rs.getD (Int.toNat i) z0)).getD (Int.toNat i) z0)) + (rval (ss.getD (Int.toNat i) z0))))).length) (lm (limbs (Int.natAbs ((rval ((os.set (Int.toNat i) (rs.getD (Int.toNat i) z0)).getD (Int.toNat i) z0)) + (rval (ss.getD (Int.toNat i) z0))))))]), 0 ≤ i ∧ i < ((k : Nat) : Int), layA (pc (os.set (Int.toNat i) (rs.getD (Int.toNat i) z0))) (Int.toNat i * 2) [.bool (decide (((rval ((os.set (Int.toNat i) (rs.getD (Int.toNat i) z0)).getD (Int.toNat i) z0)) + (rval (ss.getD (Int.toNat i) z0))) < 0)), .sl ((limbs (Int.natAbs ((rval ((os.set (Int.toNat i) (rs.getD (Int.toNat i) z0)).getD (Int.toNat i) z0)) + (rval (ss.getD (Int.toNat i) z0))))).length) (lm (limbs (Int.natAbs ((rval ((os.set (Int.toNat i) (rs.getD (Int.toNat i) z0)).getD (Int.toNat i) z0)) + (rval (ss.getD (Int.toNat i) z0))))))] = some (pc ((os.set (Int.toNat i) (rs.getD (Int.toNat i) z0)).set (Int.toNat i) (cn ((rval ((os.set (Int.toNat i) (rs.getD (Int.toNat i) z0)).getD (Int.toNat i) z0)) + (rval (ss.getD (Int.toNat i) z0))))))]) TAA_holds 400 [.b true, .b true, .v (.agg [.bool ((rs.getD (Int.toNat i) z0).1), .sl ((rs.getD (Int.toNat i) z0).2.length) (lm (rs.getD (Int.toNat i) z0).2)]), .l (pc (os.set (Int.toNat i) (rs.getD (Int.toNat i) z0))), .b true, .v (.agg [.bool (((os.set (Int.toNat i) (rs.getD (Int.toNat i) z0)).getD (Int.toNat i) z0).1), .sl (((os.set (Int.toNat i) (rs.getD (Int.toNat i) z0)).getD (Int.toNat i) z0).2.length) (lm ((os.set (Int.toNat i) (rs.getD (Int.toNat i) z0)).getD (Int.toNat i) z0).2)]), .v (.agg [.bool ((ss.getD (Int.toNat i) z0).1), .sl ((ss.getD (Int.toNat i) z0).2.length) (lm (ss.getD (Int.toNat i) z0).2)]), .r (.agg [.bool (decide (((rval ((os.set (Int.toNat i) (rs.getD (Int.toNat i) z0)).getD (Int.toNat i) z0)) + (rval (ss.getD (Int.toNat i) z0))) < 0)), .sl ((limbs (Int.natAbs ((rval ((os.set (Int.toNat i) (rs.getD (Int.toNat i) z0)).getD (Int.toNat i) z0)) + (rval (ss.getD (Int.toNat i) z0))))).length) (lm (limbs (Int.natAbs ((rval ((os.set (Int.toNat i) (rs.getD (Int.toNat i) z0)).getD (Int.toNat i) z0)) + (rval (ss.getD (Int.toNat i) z0))))))]), .l (pc ((os.set (Int.toNat i) (rs.getD (Int.toNat i) z0)).set (Int.toNat i) (cn ((rval ((os.set (Int.toNat i) (rs.getD (Int.toNat i) z0)).getD (Int.toNat i) z0)) + (rval (ss.getD (Int.toNat i) z0))))))] [0, 1, 5, 6, 7, 20, 21] (by kernel_rfl) ⟨c1, c2, n1, (take_pcI n1), n2, (lay_pcI (r := rs.getD (Int.toNat i) z0) n3 n2), c3, n2, (own_pcI n4 n2), n5, (take_pcI n5), n6, n2, (lay_pcI (r := cn ((rval ((os.set (Int.toNat i) (rs.getD (Int.toNat i) z0)).getD (Int.toNat i) z0)) + (rval (ss.getD (Int.toNat i) z0)))) n4 n2), trivial⟩)

theorem Try.k65_2 (rs : List Rn) (ss : List Rn) (n : Int) (m : Int) (k : Nat) (os : List Rn) (l : Int) (i : Int)  (c1 : (decide (i < l)) = true)
    (c2 : (decide (i < n)) = true)
    (c3 : (decide (i < m)) = false)
    (n1 : 0 ≤ i ∧ i < ((rs.length : Nat) : Int))
    (n2 : 0 ≤ i ∧ i < ((k : Nat) : Int))
    (n3 : os.length = k) : RunsW Try.ir Try.c65 (Try.s65 rs ss n m k os l i) .norm (Try.s65 rs ss n m k (os.set (Int.toNat i) (rs.getD (Int.toNat i) z0)) l (IntKind.i64.wrap (i + 1))) :=
  (RunsW.script (t := (.val (.sl rs.length (pc rs)) :: (.val (.sl ss.length (pc ss)) :: (dds 3 (.val (.int .i64 n) :: (.val (.int .i64 m) :: (.own 2 k (pc (os.set (Int.toNat i) (rs.getD (Int.toNat i) z0))) :: (dds 12 (.val (.int .i64 l) :: (.val (.int .i64 (IntKind.i64.wrap (i + 1))) :: (dds 30 []))))))))))) (ex := .norm) (ps := [(decide (i < l)) = true, (decide (i < n)) = true, 0 ≤ i ∧ i < ((rs.length : Nat) : Int), takeA (List.drop (Int.toNat i * 2) (pc rs)) 0 2 false = some (.agg [.bool ((rs.getD (Int.toNat i) z0).1), .sl ((rs.getD (Int.toNat i) z0).2.length) (lm (rs.getD (Int.toNat i) z0).2)]), 0 ≤ i ∧ i < ((k : Nat) : Int), layA (pc os) (Int.toNat i * 2) [.bool ((rs.getD (Int.toNat i) z0).1), .sl ((rs.getD (Int.toNat i) z0).2.length) (lm (rs.getD (Int.toNat i) z0).2)] = some (pc (os.set (Int.toNat i) (rs.getD (Int.toNat i) z0))), (decide (i < m)) = false]) TAA_holds 400 [.b true, .b true, .v (.agg [.bool ((rs.getD (Int.toNat i) z0).1), .sl ((rs.getD (Int.toNat i) z0).2.length) (lm (rs.getD (Int.toNat i) z0).2)]), .l (pc (os.set (Int.toNat i) (rs.getD (Int.toNat i) z0))), .b false] [0, 1, 5, 6, 7, 20, 21] (by kernel_rfl) ⟨c1, c2, n1, (take_pcI n1), n2, (lay_pcI (r := rs.getD (Int.toNat i) z0) n3 n2), c3, trivial⟩)

theorem Try.k65_3 (rs : List Rn) (ss : List Rn) (n : Int) (m : Int) (k : Nat) (os : List Rn) (l : Int) (i : Int)  (c1 : (decide (i < l)) = true)
    (c2 : (decide (i < n)) = false)
    (c3 : (decide (i < m)) = true)
    (n1 : 0 ≤ i ∧ i < ((k : Nat) : Int))
    (n2 : os.length = k)
    (n3 : 0 ≤ i ∧ i < ((ss.length : Nat) : Int))
    (n4 : Runs Try.ir 83 [.agg [.bool ((os.getD (Int.toNat i) z0).1), .sl ((os.getD (Int.toNat i) z0).2.length) (lm (os.getD (Int.toNat i) z0).2)], .agg [.bool ((ss.getD (Int.toNat i) z0).1), .sl ((ss.getD (Int.toNat i) z0).2.length) (lm (ss.getD (Int.toNat i) z0).2)]] (.agg [.bool (decide (((rval (os.getD (Int.toNat i) z0)) + (rval (ss.getD (Int.toNat i) z0))) < 0)), .sl ((limbs (Int.natAbs ((rval (os.getD (Int.toNat i) z0)) + (rval (ss.getD (Int.toNat i) z0))))).length) (lm (limbs (Int.natAbs ((rval (os.getD (Int.toNat i) z0)) + (rval (ss.getD (Int.toNat i) z0))))))])) : RunsW Try.ir Try.c65 (Try.s65 rs ss n m k os l i) .norm (Try.s65 rs ss n m k (os.set (Int.toNat i) (cn ((rval (os.getD (Int.toNat i) z0)) + (rval (ss.getD (Int.toNat i) z0))))) l (IntKind.i64.wrap (i + 1))) :=
  (RunsW.script (t := (.val (.sl rs.length (pc rs)) :: (.val (.sl ss.length (pc ss)) :: (dds 3 (.val (.int .i64 n) :: (.val (.int .i64 m) :: (.own 2 k (pc (os.set (Int.toNat i) (cn ((rval (os.getD (Int.toNat i) z0)) + (rval (ss.getD (Int.toNat i) z0)))))) :: (dds 12 (.val (.int .i64 l) :: (.val (.int .i64 (IntKind.i64.wrap (i + 1))) :: (dds 30 []))))))))))) (ex := .norm) (ps := [(decide (i < l)) = true, (decide (i < n)) = false, (decide (i < m)) = true, 0 ≤ i ∧ i < ((k : Nat) : Int), takeA (pc os) (Int.toNat i * 2) 2 false = some (.agg [.bool ((os.getD (Int.toNat i) z0).1), .sl ((os.getD (Int.toNat i) z0).2.length) (lm (os.getD (Int.toNat i) z0).2)]), 0 ≤ i ∧ i < ((ss.length : Nat) : Int), takeA (List.drop (Int.toNat i * 2) (pc ss)) 0 2 false = some (.agg [.bool ((ss.getD (Int.toNat i) z0).1), .sl ((ss.getD (Int.toNat i) z0).2.length) (lm (ss.getD (Int.toNat i) z0).2)]), Runs Try.ir 83 [.agg [.bool ((os.getD (Int.toNat i) z0).1), .sl ((os.getD (Int.toNat i) z0).2.length) (lm (os.getD (Int.toNat i) z0).2)], .agg [.bool ((ss.getD (Int.toNat i) z0).1), .sl ((ss.getD (Int.toNat i) z0).2.length) (lm (ss.getD (Int.toNat i) z0).2)]] (.agg [.bool (decide (((rval (os.getD (Int.toNat i) z0)) + (rval (ss.getD (Int.toNat i) z0))) < 0)), .sl ((limbs (Int.natAbs ((rval (os.getD (Int.toNat i) z0)) + (rval (ss.getD (Int.toNat i) z0))))).length) (lm (limbs (Int.natAbs ((rval (os.getD (Int.toNat i) z0)) + (rval (ss.getD (Int.toNat i) z0))))))]), 0 ≤ i ∧ i < ((k : Nat) : Int), layA (pc os) (Int.toNat i * 2) [.bool (decide (((rval (os.getD (Int.toNat i) z0)) + (rval (ss.getD (Int.toNat i) z0))) < 0)), .sl ((limbs (Int.natAbs ((rval (os.getD (Int.toNat i) z0)) + (rval (ss.getD (Int.toNat i) z0))))).length) (lm (limbs (Int.natAbs ((rval (os.getD (Int.toNat i) z0)) + (rval (ss.getD (Int.toNat i) z0))))))] = some (pc (os.set (Int.toNat i) (cn ((rval (os.getD (Int.toNat i) z0)) + (rval (ss.getD (Int.toNat i) z0))))))]) TAA_holds 400 [.b true, .b false, .b true, .v (.agg [.bool ((os.getD (Int.toNat i) z0).1), .sl ((os.getD (Int.toNat i) z0).2.length) (lm (os.getD (Int.toNat i) z0).2)]), .v (.agg [.bool ((ss.getD (Int.toNat i) z0).1), .sl ((ss.getD (Int.toNat i) z0).2.length) (lm (ss.getD (Int.toNat i) z0).2)]), .r (.agg [.bool (decide (((rval (os.getD (Int.toNat i) z0)) + (rval (ss.getD (Int.toNat i) z0))) < 0)), .sl ((limbs (Int.natAbs ((rval (os.getD (Int.toNat i) z0)) + (rval (ss.getD (Int.toNat i) z0))))).length) (lm (limbs (Int.natAbs ((rval (os.getD (Int.toNat i) z0)) + (rval (ss.getD (Int.toNat i) z0))))))]), .l (pc (os.set (Int.toNat i) (cn ((rval (os.getD (Int.toNat i) z0)) + (rval (ss.getD (Int.toNat i) z0))))))] [0, 1, 5, 6, 7, 20, 21] (by kernel_rfl) ⟨c1, c2, c3, n1, (own_pcI n2 n1), n3, (take_pcI n3), n4, n1, (lay_pcI (r := cn ((rval (os.getD (Int.toNat i) z0)) + (rval (ss.getD (Int.toNat i) z0)))) n2 n1), trivial⟩)

theorem Try.k65_4 (rs : List Rn) (ss : List Rn) (n : Int) (m : Int) (k : Nat) (os : List Rn) (l : Int) (i : Int)  (c1 : (decide (i < l)) = true)
    (c2 : (decide (i < n)) = false)
    (c3 : (decide (i < m)) = false) : RunsW Try.ir Try.c65 (Try.s65 rs ss n m k os l i) .norm (Try.s65 rs ss n m k os l (IntKind.i64.wrap (i + 1))) :=
  (RunsW.script (t := (.val (.sl rs.length (pc rs)) :: (.val (.sl ss.length (pc ss)) :: (dds 3 (.val (.int .i64 n) :: (.val (.int .i64 m) :: (.own 2 k (pc os) :: (dds 12 (.val (.int .i64 l) :: (.val (.int .i64 (IntKind.i64.wrap (i + 1))) :: (dds 30 []))))))))))) (ex := .norm) (ps := [(decide (i < l)) = true, (decide (i < n)) = false, (decide (i < m)) = false]) TAA_holds 400 [.b true, .b false, .b false] [0, 1, 5, 6, 7, 20, 21] (by kernel_rfl) ⟨c1, c2, c3, trivial⟩)

theorem Try.k65_5 (rs : List Rn) (ss : List Rn) (n : Int) (m : Int) (k : Nat) (os : List Rn) (l : Int) (i : Int)  (c1 : (decide (i < l)) = false) : RunsW Try.ir Try.c65 (Try.s65 rs ss n m k os l i) (.exit 0) (Try.s65 rs ss n m k os l i) :=
  (RunsW.script (t := (.val (.sl rs.length (pc rs)) :: (.val (.sl ss.length (pc ss)) :: (dds 3 (.val (.int .i64 n) :: (.val (.int .i64 m) :: (.own 2 k (pc os) :: (dds 12 (.val (.int .i64 l) :: (.val (.int .i64 i) :: (dds 30 []))))))))))) (ex := (.exit 0)) (ps := [(decide (i < l)) = false]) TAA_holds 400 [.b false] [0, 1, 5, 6, 7, 20, 21] (by kernel_rfl) ⟨c1, trivial⟩)


def plusG (rs ss : List Rn) (a b j : Nat) : Rn := if j < b then cn (rval (if j < a then rs.getD j z0 else z0) + rval (ss.getD j z0)) else (if j < a then rs.getD j z0 else z0)
theorem Try.loop65 {rs ss : List Rn} {a b : Nat} (ha : a ≤ rs.length) (hb : b ≤ ss.length) (hN : rs.length ≤ 1048576) (hM : ss.length ≤ 1048576) (hr : ∀ r ∈ rs, Good 1048575 r) (hs : ∀ r ∈ ss, Good 1048575 r) :
    RunsW Try.ir (.loop Try.c65) (Try.s65 rs ss a b (max a b) (List.replicate (max a b) z0) (max a b : Nat) 0) (.exit 0) (Try.s65 rs ss a b (max a b) ((List.range (max a b)).map (plusG rs ss a b)) (max a b : Nat) (max a b : Nat)) := by
  have h := RunsW.up (prog := Try.ir) (c := Try.c65) (ex := .exit 0) (fin := Try.s65 rs ss a b (max a b) ((List.range (max a b)).map (plusG rs ss a b)) (max a b : Nat) (max a b : Nat))
    (fun i => Try.s65 rs ss a b (max a b) (fillTo (plusG rs ss a b) i (max a b - i)) (max a b : Nat) (i : Nat)) (max a b) (by intro e; cases e) ?_ ?_ 0 (Nat.zero_le _)
  · simp only [fillTo_zero, Nat.sub_zero] at h
    exact h
  · intro i hi
    obtain ⟨r, hr'⟩ : ∃ r, max a b - i = r + 1 := ⟨max a b - i - 1, by omega⟩
    have e2 : max a b - (i + 1) = r := by omega
    have ei : IntKind.i64.wrap (((i : Nat) : Int) + 1) = ((i + 1 : Nat) : Int) := by rw [w64 (by omega) (by omega)]; omega
    have hlen : (fillTo (plusG rs ss a b) i (r + 1)).length = max a b := by rw [fillTo_length]; omega
    have hz := fillTo_at (plusG rs ss a b) i r
    have hset := fillTo_set (plusG rs ss a b) i r
    obtain ⟨gr1, gr2⟩ := good_getD hr i
    obtain ⟨gs1, gs2⟩ := good_getD hs i
    simp only [hr', e2]
    generalize fillTo (plusG rs ss a b) i (r + 1) = os at *
    by_cases h1 : i < a <;> by_cases h2 : i < b
    · have ho : (os.set i (rs.getD i z0)).getD i z0 = rs.getD i z0 := by simp [List.getD_eq_getElem?_getD, show i < os.length by omega]
      have k := Try.k65_1 rs ss a b (max a b) os (max a b : Nat) (i : Nat) (by simp; omega) (by simp; omega) (by simp; omega) (by omega) (by omega) hlen (by simpa using hlen) (by omega) (by
        simp only [Int.toNat_natCast, ho]
        exact wadd_run gr1 gs1 (by omega) (by omega))
      refine k.to rfl ?_
      simp only [Int.toNat_natCast, ei, ho, List.set_set]
      rw [← hset]; simp only [plusG, if_pos h1, if_pos h2]
    · have k := Try.k65_2 rs ss a b (max a b) os (max a b : Nat) (i : Nat) (by simp; omega) (by simp; omega) (by simp; omega) (by omega) (by omega) hlen
      refine k.to rfl ?_
      simp only [Int.toNat_natCast, ei]
      rw [← hset]; simp only [plusG, if_pos h1, if_neg h2]
    · have k := Try.k65_3 rs ss a b (max a b) os (max a b : Nat) (i : Nat) (by simp; omega) (by simp; omega) (by simp; omega) (by omega) hlen (by omega) (by
        simp only [Int.toNat_natCast, hz]
        exact wadd_run (good_z0 0).1 gs1 (by decide) (by omega))
      refine k.to rfl ?_
      simp only [Int.toNat_natCast, ei, hz]
      rw [← hset]; simp only [plusG, if_neg h1, if_pos h2]
    · omega
  · have k := Try.k65_5 rs ss a b (max a b) ((List.range (max a b)).map (plusG rs ss a b)) (max a b : Nat) (max a b : Nat) (by simp)
    simp only [Nat.sub_self, fillTo_full]
    exact k

theorem Try.run65 (rs ss os ts : List Rn) (drs dss : Int) (k M : Nat) (n1 : Runs Try.ir 82 [.sl rs.length (pc rs)] (.int .i64 drs))
    (n2 : Runs Try.ir 82 [.sl ss.length (pc ss)] (.int .i64 dss))
    (n3 : 0 ≤ (if (IntKind.i64.wrap (dss + 1)) > (IntKind.i64.wrap (drs + 1)) then (IntKind.i64.wrap (dss + 1)) else (IntKind.i64.wrap (drs + 1))) ∧ (if (IntKind.i64.wrap (dss + 1)) > (IntKind.i64.wrap (drs + 1)) then (IntKind.i64.wrap (dss + 1)) else (IntKind.i64.wrap (drs + 1))) ≤ 1048576)
    (hl4 : RunsW Try.ir (.loop Try.c65) ((.val (.sl rs.length (pc rs)) :: (.val (.sl ss.length (pc ss)) :: (dds 3 (.val (.int .i64 (IntKind.i64.wrap (drs + 1))) :: (.val (.int .i64 (IntKind.i64.wrap (dss + 1))) :: (.own 2 (Int.toNat (if (IntKind.i64.wrap (dss + 1)) > (IntKind.i64.wrap (drs + 1)) then (IntKind.i64.wrap (dss + 1)) else (IntKind.i64.wrap (drs + 1)))) (replA [.bool false, .sl 0 []] (Int.toNat (if (IntKind.i64.wrap (dss + 1)) > (IntKind.i64.wrap (drs + 1)) then (IntKind.i64.wrap (dss + 1)) else (IntKind.i64.wrap (drs + 1))))) :: (dds 12 (.val (.int .i64 (((Int.toNat (if (IntKind.i64.wrap (dss + 1)) > (IntKind.i64.wrap (drs + 1)) then (IntKind.i64.wrap (dss + 1)) else (IntKind.i64.wrap (drs + 1)))) : Nat) : Int)) :: (.val (.int .i64 0) :: (dds 30 []))))))))))) (.exit 0) (Try.s65 rs ss (IntKind.i64.wrap (drs + 1)) (IntKind.i64.wrap (dss + 1)) M os M M))
    (n5 : Runs Try.ir 81 [.sl M (pc os)] (.fresh 2 k (pc ts))) : Runs Try.ir 65 [.sl rs.length (pc rs), .sl ss.length (pc ss)] (.fresh 2 k (pc ts)) :=
  Runs.of_bodyW (fn := Try.i65) (s := (.val (.sl rs.length (pc rs)) :: (.val (.sl ss.length (pc ss)) :: (dds 2 (.own 2 k (pc ts) :: (.val (.int .i64 (IntKind.i64.wrap (drs + 1))) :: (.val (.int .i64 (IntKind.i64.wrap (dss + 1))) :: (.val (.sl M (pc os)) :: (dds 12 (.val (.int .i64 M) :: (.val (.int .i64 M) :: (dds 28 (.val (.sl M (pc os)) :: (dds 1 [])))))))))))))) (ex := .ret) rfl rfl
    (RunsW.seq (RunsW.script (t := (.val (.sl rs.length (pc rs)) :: (.val (.sl ss.length (pc ss)) :: (dds 2 (.own 2 0 [] :: (dds 47 [])))))) (ex := .norm) (ps := []) TAA_holds 400 [] [0, 1, 4] (by kernel_rfl) trivial)
    (RunsW.seq (RunsW.script (t := (.val (.sl rs.length (pc rs)) :: (.val (.sl ss.length (pc ss)) :: (dds 2 (.own 2 0 [] :: (.val (.int .i64 (IntKind.i64.wrap (drs + 1))) :: (.val (.int .i64 (IntKind.i64.wrap (dss + 1))) :: (dds 2 (.val (.sl rs.length (pc rs)) :: (.val (.int .i64 drs) :: (.val (.int .i64 (IntKind.i64.wrap (drs + 1))) :: (.val (.sl ss.length (pc ss)) :: (.val (.int .i64 dss) :: (.val (.int .i64 (IntKind.i64.wrap (dss + 1))) :: (dds 37 []))))))))))))))) (ex := .norm) (ps := [Runs Try.ir 82 [.sl rs.length (pc rs)] (.int .i64 drs), Runs Try.ir 82 [.sl ss.length (pc ss)] (.int .i64 dss)]) TAA_holds 400 [.r (.int .i64 drs), .r (.int .i64 dss)] [0, 1, 4, 5, 6, 9, 10, 11, 12, 13, 14] (by kernel_rfl) ⟨n1, n2, trivial⟩)
    (RunsW.seq (RunsW.script (t := (.val (.sl rs.length (pc rs)) :: (.val (.sl ss.length (pc ss)) :: (dds 2 (.own 2 0 [] :: (.val (.int .i64 (IntKind.i64.wrap (drs + 1))) :: (.val (.int .i64 (IntKind.i64.wrap (dss + 1))) :: (.own 2 (Int.toNat (if (IntKind.i64.wrap (dss + 1)) > (IntKind.i64.wrap (drs + 1)) then (IntKind.i64.wrap (dss + 1)) else (IntKind.i64.wrap (drs + 1)))) (replA [.bool false, .sl 0 []] (Int.toNat (if (IntKind.i64.wrap (dss + 1)) > (IntKind.i64.wrap (drs + 1)) then (IntKind.i64.wrap (dss + 1)) else (IntKind.i64.wrap (drs + 1))))) :: (dds 1 (.val (.sl rs.length (pc rs)) :: (.val (.int .i64 drs) :: (.val (.int .i64 (IntKind.i64.wrap (drs + 1))) :: (.val (.sl ss.length (pc ss)) :: (.val (.int .i64 dss) :: (.val (.int .i64 (IntKind.i64.wrap (dss + 1))) :: (.val (.int .i64 (IntKind.i64.wrap (drs + 1))) :: (.val (.int .i64 (IntKind.i64.wrap (dss + 1))) :: (.val (.int .i64 (if (IntKind.i64.wrap (dss + 1)) > (IntKind.i64.wrap (drs + 1)) then (IntKind.i64.wrap (dss + 1)) else (IntKind.i64.wrap (drs + 1)))) :: (dds 34 []))))))))))))))))))) (ex := .norm) (ps := [0 ≤ (if (IntKind.i64.wrap (dss + 1)) > (IntKind.i64.wrap (drs + 1)) then (IntKind.i64.wrap (dss + 1)) else (IntKind.i64.wrap (drs + 1))) ∧ (if (IntKind.i64.wrap (dss + 1)) > (IntKind.i64.wrap (drs + 1)) then (IntKind.i64.wrap (dss + 1)) else (IntKind.i64.wrap (drs + 1))) ≤ 1048576]) TAA_holds 400 [] [0, 1, 4, 5, 6, 7, 9, 10, 11, 12, 13, 14, 15, 16, 17] (by kernel_rfl) ⟨n3, trivial⟩)
    (RunsW.seq (RunsW.seq (RunsW.script (t := (.val (.sl rs.length (pc rs)) :: (.val (.sl ss.length (pc ss)) :: (dds 3 (.val (.int .i64 (IntKind.i64.wrap (drs + 1))) :: (.val (.int .i64 (IntKind.i64.wrap (dss + 1))) :: (.own 2 (Int.toNat (if (IntKind.i64.wrap (dss + 1)) > (IntKind.i64.wrap (drs + 1)) then (IntKind.i64.wrap (dss + 1)) else (IntKind.i64.wrap (drs + 1)))) (replA [.bool false, .sl 0 []] (Int.toNat (if (IntKind.i64.wrap (dss + 1)) > (IntKind.i64.wrap (drs + 1)) then (IntKind.i64.wrap (dss + 1)) else (IntKind.i64.wrap (drs + 1))))) :: (dds 12 (.val (.int .i64 (((Int.toNat (if (IntKind.i64.wrap (dss + 1)) > (IntKind.i64.wrap (drs + 1)) then (IntKind.i64.wrap (dss + 1)) else (IntKind.i64.wrap (drs + 1)))) : Nat) : Int)) :: (.val (.int .i64 0) :: (dds 30 []))))))))))) (ex := .norm) (ps := []) TAA_holds 400 [] [0, 1, 5, 6, 7, 20, 21] (by kernel_rfl) trivial)
    (RunsW.block hl4))
    (RunsW.script (t := (.val (.sl rs.length (pc rs)) :: (.val (.sl ss.length (pc ss)) :: (dds 2 (.own 2 k (pc ts) :: (.val (.int .i64 (IntKind.i64.wrap (drs + 1))) :: (.val (.int .i64 (IntKind.i64.wrap (dss + 1))) :: (.val (.sl M (pc os)) :: (dds 12 (.val (.int .i64 M) :: (.val (.int .i64 M) :: (dds 28 (.val (.sl M (pc os)) :: (dds 1 [])))))))))))))) (ex := .ret) (ps := [Runs Try.ir 81 [.sl M (pc os)] (.fresh 2 k (pc ts))]) TAA_holds 400 [.r (.fresh 2 k (pc ts))] [0, 1, 4, 5, 6, 7, 20, 21, 50] (by kernel_rfl) ⟨n5, trivial⟩))))) (by intro i e; cases e) rfl


theorem top_zero (xs : List Int) {j : Nat} (h : topN xs xs.length ≤ j) : xs.getD j 0 = 0 := by
  rcases Nat.lt_or_ge j xs.length with g | g
  · exact topN_zero xs xs.length j h g
  · exact getD_end g
theorem plusG_val (rs ss : List Rn) (j : Nat) : rval (plusG rs ss (topN (vals rs) rs.length) (topN (vals ss) ss.length) j) = (vals rs).getD j 0 + (vals ss).getD j 0 := by
  have h1 := vals_getD rs j
  have h2 := vals_getD ss j
  unfold plusG
  by_cases g1 : j < topN (vals rs) rs.length <;> by_cases g2 : j < topN (vals ss) ss.length
  · rw [if_pos g1, if_pos g2, rval_cn, h1, h2]
  · have := top_zero (vals ss) (j := j) (by rw [vals_length]; omega)
    rw [if_pos g1, if_neg g2, h1, this, Int.add_zero]
  · have := top_zero (vals rs) (j := j) (by rw [vals_length]; omega)
    rw [if_neg g1, if_pos g2, rval_cn, rval_z0, h2, this]
  · have k1 := top_zero (vals ss) (j := j) (by rw [vals_length]; omega)
    have k2 := top_zero (vals rs) (j := j) (by rw [vals_length]; omega)
    rw [if_neg g1, if_neg g2, rval_z0, k1, k2]; rfl
theorem plusG_good {K : Nat} {rs ss : List Rn} (hr : ∀ r ∈ rs, Good K r) (hs : ∀ r ∈ ss, Good K r) (a b j : Nat) : Good (K + 1) (plusG rs ss a b j) := by
  have h1 := good_getD hr j
  have h2 := good_getD hs j
  unfold plusG
  split
  · split
    · exact good_cn (h1.fits.add h2.fits)
    · exact good_cn ((good_z0 K).fits.add h2.fits)
  · split
    · exact h1.mono (by omega)
    · exact good_z0 _
theorem aplus_run {K : Nat} {rs ss : List Rn} (hr : ∀ r ∈ rs, Good K r) (hs : ∀ r ∈ ss, Good K r) (hK : K < 1048576) (hN : rs.length ≤ 1048576) (hM : ss.length ≤ 1048576) :
    Runs Try.ir 65 [.sl rs.length (pc rs), .sl ss.length (pc ss)] (.fresh 2 (padd (vals rs) (vals ss)).length (pk (padd (vals rs) (vals ss)))) := by
  have hr' : ∀ r ∈ rs, Good 1048575 r := fun r h => (hr r h).mono (by omega)
  have hs' : ∀ r ∈ ss, Good 1048575 r := fun r h => (hs r h).mono (by omega)
  have d1 := degree_run (fun r h => (hr r h).mono (by omega)) hN
  have d2 := degree_run (fun r h => (hs r h).mono (by omega)) hM
  have l1 := topN_le (vals rs) rs.length
  have l2 := topN_le (vals ss) ss.length
  have hl := Try.loop65 l1 l2 hN hM hr' hs'
  have hg : ∀ r ∈ (List.range (max (topN (vals rs) rs.length) (topN (vals ss) ss.length))).map (plusG rs ss (topN (vals rs) rs.length) (topN (vals ss) ss.length)), Good 1048576 r := good_fill fun i _ => (plusG_good hr hs _ _ i).mono (by omega)
  have ht := atrim_run hg (by simp; omega)
  have e : trimL (vals ((List.range (max (topN (vals rs) rs.length) (topN (vals ss) ss.length))).map (plusG rs ss (topN (vals rs) rs.length) (topN (vals ss) ss.length)))) = padd (vals rs) (vals ss) := by
    rw [← padd_trim]
    apply trim_ext
    intro j
    rw [getD_padd, vals_range]
    split
    · exact plusG_val rs ss j
    · rename_i h
      rw [top_zero (vals rs) (j := j) (by rw [vals_length]; omega), top_zero (vals ss) (j := j) (by rw [vals_length]; omega)]; rfl
  rw [e] at ht
  have e1 : IntKind.i64.wrap ((((topN (vals rs) rs.length : Nat) : Int) - 1) + 1) = ((topN (vals rs) rs.length : Nat) : Int) := by rw [w64 (by omega) (by omega)]; omega
  have e2 : IntKind.i64.wrap ((((topN (vals ss) ss.length : Nat) : Int) - 1) + 1) = ((topN (vals ss) ss.length : Nat) : Int) := by rw [w64 (by omega) (by omega)]; omega
  have e3 : (if ((topN (vals ss) ss.length : Nat) : Int) > ((topN (vals rs) rs.length : Nat) : Int) then ((topN (vals ss) ss.length : Nat) : Int) else ((topN (vals rs) rs.length : Nat) : Int)) = ((max (topN (vals rs) rs.length) (topN (vals ss) ss.length) : Nat) : Int) := by split <;> omega
  rw [List.length_map, List.length_range] at ht
  exact Try.run65 rs ss _ _ _ _ _ (max (topN (vals rs) rs.length) (topN (vals ss) ss.length)) d1 d2 (by rw [e1, e2, e3]; omega) (by rw [e1, e2, e3, Int.toNat_natCast, repl_pc]; exact hl) ht

theorem Try.run63 (rs ss ts us vs : List Rn) (k1 k2 k3 : Nat) (n1 : Runs Try.ir 81 [.sl ss.length (pc ss)] (.fresh 2 k1 (pc ts)))
    (n2 : Runs Try.ir 74 [.sl k1 (pc ts)] (.fresh 2 k2 (pc us)))
    (n3 : Runs Try.ir 65 [.sl rs.length (pc rs), .sl k2 (pc us)] (.fresh 2 k3 (pc vs))) : Runs Try.ir 63 [.sl rs.length (pc rs), .sl ss.length (pc ss)] (.fresh 2 k3 (pc vs)) :=
  Runs.script (r := .fresh 2 k3 (pc vs)) (ps := [Runs Try.ir 81 [.sl ss.length (pc ss)] (.fresh 2 k1 (pc ts)), Runs Try.ir 74 [.sl k1 (pc ts)] (.fresh 2 k2 (pc us)), Runs Try.ir 65 [.sl rs.length (pc rs), .sl k2 (pc us)] (.fresh 2 k3 (pc vs))]) TAA_holds rfl 400 rfl [.r (.fresh 2 k1 (pc ts)), .r (.fresh 2 k2 (pc us)), .r (.fresh 2 k3 (pc vs))] (by kernel_rfl) ⟨n1, n2, n3, trivial⟩

theorem aminus_run {K : Nat} {rs ss : List Rn} (hr : ∀ r ∈ rs, Good K r) (hs : ∀ r ∈ ss, Good K r) (hK : K < 1048576) (hN : rs.length ≤ 1048576) (hM : ss.length ≤ 1048576) :
    Runs Try.ir 63 [.sl rs.length (pc rs), .sl ss.length (pc ss)] (.fresh 2 (psub (vals rs) (vals ss)).length (pk (psub (vals rs) (vals ss)))) := by
  have h1 := atrim_run (fun r h => (hs r h).mono (show K ≤ 1048576 by omega)) hM
  have f1 : ∀ x ∈ trimL (vals ss), Fits K x := fits_mem_trim (fits_vals hs)
  have l1 := trim_len (vals ss)
  rw [vals_length] at l1
  have h2 := anegative_run (rs := (trimL (vals ss)).map cn) (fun r h => (good_cns f1 r h).mono (by omega)) (by simp; omega)
  rw [vals_cn] at h2
  have h3 := aplus_run (ss := (pneg (trimL (vals ss))).map cn) hr (good_cns (fits_mem_pneg f1)) hK hN (by simp [pneg_len]; omega)
  rw [vals_cn] at h3
  have e : padd (vals rs) (pneg (trimL (vals ss))) = psub (vals rs) (vals ss) := padd_ext (fun i => rfl) (fun i => by rw [getD_pneg, getD_pneg, getD_trim])
  rw [e] at h3
  rw [List.length_map] at h2 h3
  rw [pneg_len] at h3
  exact Try.run63 rs ss _ _ _ _ _ _ h1 h2 h3

def Try.c73 : ICode := .seq (.region false [oB 12 .lss 11 10])
  (.seq (.cond (.t 12) (.skip)
  (.exit 0))
  (.seq (.block 1 (.seq (.region false [oM 13 11,
   o1 14 (.ixa 9 (.t 11) 1),
   o1 15 (.ld 14 14 1 true),
   oM 4 13,
   oM 5 15])
  (.region false [o1 16 (.cpy 3),
   oM 17 4,
   oM 18 5,
   oC 19 92 [18],
   o1 20 (.ixo 16 3 (.t 17) 2),
   oN (.st 20 3 2 (.t 19))])))
  (.region false [o1 21 (.bin .add (.t 11) (.c (.int .i64 1))),
   oM 11 21])))
def Try.s73 (xs : List Int) (k : Nat) (os : List Rn) (l : Int) (i : Int) : State := (dds 3 (.own 2 k (pc os) :: (dds 5 (.val (.sl xs.length (li xs)) :: (.val (.int .i64 l) :: (.val (.int .i64 i) :: (dds 12 [])))))))
theorem Try.k73_1 (xs : List Int) (k : Nat) (os : List Rn) (l : Int) (i : Int)  (c1 : (decide (i < l)) = true)
    (n1 : 0 ≤ i ∧ i < ((xs.length : Nat) : Int))
    (n2 : 0 ≤ i ∧ i < ((k : Nat) : Int))
    (n3 : os.length = k)
    (n4 : Runs Try.ir 92 [.int .i64 (xs.getD (Int.toNat i) 0)] (.agg [.bool (decide ((xs.getD (Int.toNat i) 0) < 0)), .sl ((limbs (Int.natAbs (xs.getD (Int.toNat i) 0))).length) (lm (limbs (Int.natAbs (xs.getD (Int.toNat i) 0))))])) : RunsW Try.ir Try.c73 (Try.s73 xs k os l i) .norm (Try.s73 xs k (os.set (Int.toNat i) (cn (xs.getD (Int.toNat i) 0))) l (IntKind.i64.wrap (i + 1))) :=
  (RunsW.script (t := (dds 3 (.own 2 k (pc (os.set (Int.toNat i) (cn (xs.getD (Int.toNat i) 0)))) :: (dds 5 (.val (.sl xs.length (li xs)) :: (.val (.int .i64 l) :: (.val (.int .i64 (IntKind.i64.wrap (i + 1))) :: (dds 12 [])))))))) (ex := .norm) (ps := [(decide (i < l)) = true, 0 ≤ i ∧ i < ((xs.length : Nat) : Int), takeA (List.drop (Int.toNat i * 1) (li xs)) 0 1 true = some (.int .i64 (xs.getD (Int.toNat i) 0)), Runs Try.ir 92 [.int .i64 (xs.getD (Int.toNat i) 0)] (.agg [.bool (decide ((xs.getD (Int.toNat i) 0) < 0)), .sl ((limbs (Int.natAbs (xs.getD (Int.toNat i) 0))).length) (lm (limbs (Int.natAbs (xs.getD (Int.toNat i) 0))))]), 0 ≤ i ∧ i < ((k : Nat) : Int), layA (pc os) (Int.toNat i * 2) [.bool (decide ((xs.getD (Int.toNat i) 0) < 0)), .sl ((limbs (Int.natAbs (xs.getD (Int.toNat i) 0))).length) (lm (limbs (Int.natAbs (xs.getD (Int.toNat i) 0))))] = some (pc (os.set (Int.toNat i) (cn (xs.getD (Int.toNat i) 0))))]) TAA_holds 400 [.b true, .v (.int .i64 (xs.getD (Int.toNat i) 0)), .r (.agg [.bool (decide ((xs.getD (Int.toNat i) 0) < 0)), .sl ((limbs (Int.natAbs (xs.getD (Int.toNat i) 0))).length) (lm (limbs (Int.natAbs (xs.getD (Int.toNat i) 0))))]), .l (pc (os.set (Int.toNat i) (cn (xs.getD (Int.toNat i) 0))))] [3, 9, 10, 11] (by kernel_rfl) ⟨c1, n1, (take_liI n1), n4, n2, (lay_pcI (r := cn (xs.getD (Int.toNat i) 0)) n3 n2), trivial⟩)

theorem Try.k73_2 (xs : List Int) (k : Nat) (os : List Rn) (l : Int) (i : Int)  (c1 : (decide (i < l)) = false) : RunsW Try.ir Try.c73 (Try.s73 xs k os l i) (.exit 0) (Try.s73 xs k os l i) :=
  (RunsW.script (t := (dds 3 (.own 2 k (pc os) :: (dds 5 (.val (.sl xs.length (li xs)) :: (.val (.int .i64 l) :: (.val (.int .i64 i) :: (dds 12 [])))))))) (ex := (.exit 0)) (ps := [(decide (i < l)) = false]) TAA_holds 400 [.b false] [3, 9, 10, 11] (by kernel_rfl) ⟨c1, trivial⟩)

theorem Try.run73 (xs : List Int) (os ts : List Rn) (k1 M : Nat) (n1 : 0 ≤ ((xs.length : Nat) : Int) ∧ ((xs.length : Nat) : Int) ≤ 1048576)
    (hl2 : RunsW Try.ir (.loop Try.c73) ((dds 3 (.own 2 (Int.toNat ((xs.length : Nat) : Int)) (replA [.bool false, .sl 0 []] (Int.toNat ((xs.length : Nat) : Int))) :: (dds 5 (.val (.sl xs.length (li xs)) :: (.val (.int .i64 ((xs.length : Nat) : Int)) :: (.val (.int .i64 0) :: (dds 12 [])))))))) (.exit 0) (Try.s73 xs M os M M))
    (n3 : Runs Try.ir 81 [.sl M (pc os)] (.fresh 2 k1 (pc ts))) : Runs Try.ir 73 [.sl xs.length (li xs)] (.fresh 2 k1 (pc ts)) :=
  Runs.of_bodyW (fn := Try.i73) (s := (dds 2 (.own 2 k1 (pc ts) :: (.val (.sl M (pc os)) :: (dds 5 (.val (.sl xs.length (li xs)) :: (.val (.int .i64 M) :: (.val (.int .i64 M) :: (dds 10 (.val (.sl M (pc os)) :: (dds 1 []))))))))))) (ex := .ret) rfl rfl
    (RunsW.seq (RunsW.script (t := (.val (.sl xs.length (li xs)) :: (dds 1 (.own 2 0 [] :: (dds 21 []))))) (ex := .norm) (ps := []) TAA_holds 400 [] [0, 2] (by kernel_rfl) trivial)
    (RunsW.seq (RunsW.script (t := (.val (.sl xs.length (li xs)) :: (dds 1 (.own 2 0 [] :: (.own 2 (Int.toNat ((xs.length : Nat) : Int)) (replA [.bool false, .sl 0 []] (Int.toNat ((xs.length : Nat) : Int))) :: (dds 2 (.val (.sl xs.length (li xs)) :: (.val (.int .i64 ((xs.length : Nat) : Int)) :: (dds 16 []))))))))) (ex := .norm) (ps := [0 ≤ ((xs.length : Nat) : Int) ∧ ((xs.length : Nat) : Int) ≤ 1048576]) TAA_holds 400 [] [0, 2, 3, 6, 7] (by kernel_rfl) ⟨n1, trivial⟩)
    (RunsW.seq (RunsW.seq (RunsW.script (t := (dds 3 (.own 2 (Int.toNat ((xs.length : Nat) : Int)) (replA [.bool false, .sl 0 []] (Int.toNat ((xs.length : Nat) : Int))) :: (dds 5 (.val (.sl xs.length (li xs)) :: (.val (.int .i64 ((xs.length : Nat) : Int)) :: (.val (.int .i64 0) :: (dds 12 [])))))))) (ex := .norm) (ps := []) TAA_holds 400 [] [3, 9, 10, 11] (by kernel_rfl) trivial)
    (RunsW.block hl2))
    (RunsW.script (t := (dds 2 (.own 2 k1 (pc ts) :: (.val (.sl M (pc os)) :: (dds 5 (.val (.sl xs.length (li xs)) :: (.val (.int .i64 M) :: (.val (.int .i64 M) :: (dds 10 (.val (.sl M (pc os)) :: (dds 1 []))))))))))) (ex := .ret) (ps := [Runs Try.ir 81 [.sl M (pc os)] (.fresh 2 k1 (pc ts))]) TAA_holds 400 [.r (.fresh 2 k1 (pc ts))] [2, 3, 9, 10, 11, 22] (by kernel_rfl) ⟨n3, trivial⟩)))) (by intro i e; cases e) rfl

theorem aints_run {xs : List Int} (hx : ∀ x ∈ xs, -9223372036854775808 ≤ x ∧ x ≤ 9223372036854775807) (hN : xs.length ≤ 1048576) : Runs Try.ir 73 [.sl xs.length (li xs)] (.fresh 2 (trimL xs).length (pk (trimL xs))) := by
  have hb : ∀ i, -9223372036854775808 ≤ xs.getD i 0 ∧ xs.getD i 0 ≤ 9223372036854775807 := by
    intro i
    rw [List.getD_eq_getElem?_getD]
    cases e : xs[i]? with
    | none => simp
    | some x => exact hx x (List.mem_of_getElem? e)
  have hl := RunsW.up (prog := Try.ir) (c := Try.c73) (ex := .exit 0) (fin := Try.s73 xs xs.length (xs.map cn) (xs.length : Nat) (xs.length : Nat))
    (fun i => Try.s73 xs xs.length (fillTo (fun j => cn (xs.getD j 0)) i (xs.length - i)) (xs.length : Nat) (i : Nat)) xs.length (by intro e; cases e) ?_ ?_ 0 (Nat.zero_le _)
  · simp only [fillTo_zero, Nat.sub_zero] at hl
    have ht := atrim_run (rs := xs.map cn) (fun r h => by
      obtain ⟨x, hx', rfl⟩ := List.mem_map.1 h
      exact (good_cn (fits_i64 (hx x hx'))).mono (by omega)) (by simpa using hN)
    rw [vals_cn, List.length_map] at ht
    exact Try.run73 xs _ _ _ _ (by omega) (by rw [Int.toNat_natCast, repl_pc]; exact hl) ht
  · intro i hi
    obtain ⟨r, hr'⟩ : ∃ r, xs.length - i = r + 1 := ⟨xs.length - i - 1, by omega⟩
    have e2 : xs.length - (i + 1) = r := by omega
    have ei : IntKind.i64.wrap (((i : Nat) : Int) + 1) = ((i + 1 : Nat) : Int) := by rw [w64 (by omega) (by omega)]; omega
    have hset := fillTo_set (fun j => cn (xs.getD j 0)) i r
    have hlen : (fillTo (fun j => cn (xs.getD j 0)) i (r + 1)).length = xs.length := by rw [fillTo_length]; omega
    simp only [hr', e2]
    have k := Try.k73_1 xs xs.length (fillTo (fun j => cn (xs.getD j 0)) i (r + 1)) (xs.length : Nat) (i : Nat) (by simp; omega) (by omega) (by omega) hlen (by rw [Int.toNat_natCast]; exact wof_run (hb i))
    refine k.to rfl ?_
    simp only [Int.toNat_natCast, ei]
    rw [← hset]
  · have k := Try.k73_2 xs xs.length (xs.map cn) (xs.length : Nat) (xs.length : Nat) (by simp)
    simp only [Nat.sub_self, fillTo_full, range_cn]
    exact k

def Try.c66i : ICode := .seq (.seq (.region false [oM 32 9,
   oM 33 6,
   oB 34 .lss 32 33])
  (.cond (.t 34) (.skip)
  (.exit 2)))
  (.seq (.block 3 (.region true [o1 37 (.cpy 7),
   oM 38 8,
   oM 39 9,
   oB 40 .add 38 39,
   o1 41 (.cpy 7),
   oM 42 8,
   oM 43 9,
   oB 44 .add 42 43,
   o1 45 (.ixo 41 7 (.t 44) 2),
   o1 46 (.ld 45 7 2 false),
   oM 47 0,
   oM 48 8,
   o1 49 (.ixa 47 (.t 48) 2),
   o1 50 (.ld 49 49 2 false),
   oM 51 1,
   oM 52 9,
   o1 53 (.ixa 51 (.t 52) 2),
   o1 54 (.ld 53 53 2 false),
   oC 55 84 [50, 54],
   oC 56 83 [46, 55],
   o1 57 (.ixo 37 7 (.t 40) 2),
   oN (.st 57 7 2 (.t 56))]))
  (.region false [oM 35 9,
   o1 36 (.bin .add (.t 35) (.c (.int .i64 1))),
   oM 9 36]))
def Try.s66i (rs : List Rn) (ss : List Rn) (n : Int) (m : Int) (k : Nat) (os : List Rn) (i : Int) (j : Int) : State := (.val (.sl rs.length (pc rs)) :: (.val (.sl ss.length (pc ss)) :: (dds 3 (.val (.int .i64 n) :: (.val (.int .i64 m) :: (.own 2 k (pc os) :: (.val (.int .i64 i) :: (.val (.int .i64 j) :: (dds 50 [])))))))))
theorem Try.k66i_1 (rs : List Rn) (ss : List Rn) (n : Int) (m : Int) (k : Nat) (os : List Rn) (i : Int) (j : Int)  (c1 : (decide (j < m)) = true)
    (n1 : 0 ≤ (IntKind.i64.wrap (i + j)) ∧ (IntKind.i64.wrap (i + j)) < ((k : Nat) : Int))
    (n2 : os.length = k)
    (n3 : 0 ≤ i ∧ i < ((rs.length : Nat) : Int))
    (n4 : 0 ≤ j ∧ j < ((ss.length : Nat) : Int))
    (n5 : Runs Try.ir 84 [.agg [.bool ((rs.getD (Int.toNat i) z0).1), .sl ((rs.getD (Int.toNat i) z0).2.length) (lm (rs.getD (Int.toNat i) z0).2)], .agg [.bool ((ss.getD (Int.toNat j) z0).1), .sl ((ss.getD (Int.toNat j) z0).2.length) (lm (ss.getD (Int.toNat j) z0).2)]] (.agg [.bool (decide (((rval (rs.getD (Int.toNat i) z0)) * (rval (ss.getD (Int.toNat j) z0))) < 0)), .sl ((limbs (Int.natAbs ((rval (rs.getD (Int.toNat i) z0)) * (rval (ss.getD (Int.toNat j) z0))))).length) (lm (limbs (Int.natAbs ((rval (rs.getD (Int.toNat i) z0)) * (rval (ss.getD (Int.toNat j) z0))))))]))
    (n6 : Runs Try.ir 83 [.agg [.bool ((os.getD (Int.toNat (IntKind.i64.wrap (i + j))) z0).1), .sl ((os.getD (Int.toNat (IntKind.i64.wrap (i + j))) z0).2.length) (lm (os.getD (Int.toNat (IntKind.i64.wrap (i + j))) z0).2)], .agg [.bool (decide (((rval (rs.getD (Int.toNat i) z0)) * (rval (ss.getD (Int.toNat j) z0))) < 0)), .sl ((limbs (Int.natAbs ((rval (rs.getD (Int.toNat i) z0)) * (rval (ss.getD (Int.toNat j) z0))))).length) (lm (limbs (Int.natAbs ((rval (rs.getD (Int.toNat i) z0)) * (rval (ss.getD (Int.toNat j) z0))))))]] (.agg [.bool (decide (((rval (os.getD (Int.toNat (IntKind.i64.wrap (i + j))) z0)) + ((rval (rs.getD (Int.toNat i) z0)) * (rval (ss.getD (Int.toNat j) z0)))) < 0)), .sl ((limbs (Int.natAbs ((rval (os.getD (Int.toNat (IntKind.i64.wrap (i + j))) z0)) + ((rval (rs.getD (Int.toNat i) z0)) * (rval (ss.getD (Int.toNat j) z0)))))).length) (lm (limbs (Int.natAbs ((rval (os.getD (Int.toNat (IntKind.i64.wrap (i + j))) z0)) + ((rval (rs.getD (Int.toNat i) z0)) * (rval (ss.getD (Int.toNat j) z0)))))))])) : RunsW Try.ir Try.c66i (Try.s66i rs ss n m k os i j) .norm (Try.s66i rs ss n m k (os.set (Int.toNat (IntKind.i64.wrap (i + j))) (cn ((rval (os.getD (Int.toNat (IntKind.i64.wrap (i + j))) z0)) + ((rval (rs.getD (Int.toNat i) z0)) * (rval (ss.getD (Int.toNat j) z0)))))) i (IntKind.i64.wrap (j + 1))) :=
  (RunsW.script (t := (.val (.sl rs.length (pc rs)) :: (.val (.sl ss.length (pc ss)) :: (dds 3 (.val (.int .i64 n) :: (.val (.int .i64 m) :: (.own 2 k (pc (os.set (Int.toNat (IntKind.i64.wrap (i + j))) (cn ((rval (os.getD (Int.toNat (IntKind.i64.wrap (i + j))) z0)) + ((rval (rs.getD (Int.toNat i) z0)) * (rval (ss.getD (Int.toNat j) z0))))))) :: (.val (.int .i64 i) :: (.val (.int .i64 (IntKind.i64.wrap (j + 1))) :: (dds 50 [])))))))))) (ex := .norm) (ps := [(decide (j < m)) = true, 0 ≤ (IntKind.i64.wrap (i + j)) ∧ (IntKind.i64.wrap (i + j)) < ((k : Nat) : Int), takeA (pc os) (Int.toNat (IntKind.i64.wrap (i + j)) * 2) 2 false = some (.agg [.bool ((os.getD (Int.toNat (IntKind.i64.wrap (i + j))) z0).1), .sl ((os.getD (Int.toNat (IntKind.i64.wrap (i + j))) z0).2.length) (lm (os.getD (Int.toNat (IntKind.i64.wrap (i + j))) z0).2)]), 0 ≤ i ∧ i < ((rs.length : Nat) : Int), takeA (List.drop (Int.toNat i * 2) (pc rs)) 0 2 false = some (.agg [.bool ((rs.getD (Int.toNat i) z0).1), .sl ((rs.getD (Int.toNat i) z0).2.length) (lm (rs.getD (Int.toNat i) z0).2)]), 0 ≤ j ∧ j < ((ss.length : Nat) : Int), takeA (List.drop (Int.toNat j * 2) (pc ss)) 0 2 false = some (.agg [.bool ((ss.getD (Int.toNat j) z0).1), .sl ((ss.getD (Int.toNat j) z0).2.length) (lm (ss.getD (Int.toNat j) z0).2)]), Runs Try.ir 84 [.agg [.bool ((rs.getD (Int.toNat i) z0).1), .sl ((rs.getD (Int.toNat i) z0).2.length) (lm (rs.getD (Int.toNat i) z0).2)], .agg [.bool ((ss.getD (Int.toNat j) z0).1), .sl ((ss.getD (Int.toNat j) z0).2.length) (lm (ss.getD (Int.toNat j) z0).2)]] (.agg [.bool (decide (((rval (rs.getD (Int.toNat i) z0)) * (rval (ss.getD (Int.toNat j) z0))) < 0)), .sl ((limbs (Int.natAbs ((rval (rs.getD (Int.toNat i) z0)) * (rval (ss.getD (Int.toNat j) z0))))).length) (lm (limbs (Int.natAbs ((rval (rs.getD (Int.toNat i) z0)) * (rval (ss.getD (Int.toNat j) z0))))))]), Runs Try.ir 83 [.agg [.bool ((os.getD (Int.toNat (IntKind.i64.wrap (i + j))) z0).1), .sl ((os.getD (Int.toNat (IntKind.i64.wrap (i + j))) z0).2.length) (lm (os.getD (Int.toNat (IntKind.i64.wrap (i + j))) z0).2)], .agg [.bool (decide (((rval (rs.getD (Int.toNat i) z0)) * (rval (ss.getD (Int.toNat j) z0))) < 0)), .sl ((limbs (Int.natAbs ((rval (rs.getD (Int.toNat i) z0)) * (rval (ss.getD (Int.toNat j) z0))))).length) (lm (limbs (Int.natAbs ((rval (rs.getD (Int.toNat i) z0)) * (rval (ss.getD (Int.toNat j) z0))))))]] (.agg [.bool (decide (((rval (os.getD (Int.toNat (IntKind.i64.wrap (i + j))) z0)) + ((rval (rs.getD (Int.toNat i) z0)) * (rval (ss.getD (Int.toNat j) z0)))) < 0)), .sl ((limbs (Int.natAbs ((rval (os.getD (Int.toNat (IntKind.i64.wrap (i + j))) z0)) + ((rval (rs.getD (Int.toNat i) z0)) * (rval (ss.getD (Int.toNat j) z0)))))).length) (lm (limbs (Int.natAbs ((rval (os.getD (Int.toNat (IntKind.i64.wrap (i + j))) z0)) + ((rval (rs.getD (Int.toNat i) z0)) * (rval (ss.getD (Int.toNat j) z0)))))))]), 0 ≤ (IntKind.i64.wrap (i + j)) ∧ (IntKind.i64.wrap (i + j)) < ((k : Nat) : Int), layA (pc os) (Int.toNat (IntKind.i64.wrap (i + j)) * 2) [.bool (decide (((rval (os.getD (Int.toNat (IntKind.i64.wrap (i + j))) z0)) + ((rval (rs.getD (Int.toNat i) z0)) * (rval (ss.getD (Int.toNat j) z0)))) < 0)), .sl ((limbs (Int.natAbs ((rval (os.getD (Int.toNat (IntKind.i64.wrap (i + j))) z0)) + ((rval (rs.getD (Int.toNat i) z0)) * (rval (ss.getD (Int.toNat j) z0)))))).length) (lm (limbs (Int.natAbs ((rval (os.getD (Int.toNat (IntKind.i64.wrap (i + j))) z0)) + ((rval (rs.getD (Int.toNat i) z0)) * (rval (ss.getD (Int.toNat j) z0)))))))] = some (pc (os.set (Int.toNat (IntKind.i64.wrap (i + j))) (cn ((rval (os.getD (Int.toNat (IntKind.i64.wrap (i + j))) z0)) + ((rval (rs.getD (Int.toNat i) z0)) * (rval (ss.getD (Int.toNat j) z0)))))))]) TAA_holds 400 [.b true, .v (.agg [.bool ((os.getD (Int.toNat (IntKind.i64.wrap (i + j))) z0).1), .sl ((os.getD (Int.toNat (IntKind.i64.wrap (i + j))) z0).2.length) (lm (os.getD (Int.toNat (IntKind.i64.wrap (i + j))) z0).2)]), .v (.agg [.bool ((rs.getD (Int.toNat i) z0).1), .sl ((rs.getD (Int.toNat i) z0).2.length) (lm (rs.getD (Int.toNat i) z0).2)]), .v (.agg [.bool ((ss.getD (Int.toNat j) z0).1), .sl ((ss.getD (Int.toNat j) z0).2.length) (lm (ss.getD (Int.toNat j) z0).2)]), .r (.agg [.bool (decide (((rval (rs.getD (Int.toNat i) z0)) * (rval (ss.getD (Int.toNat j) z0))) < 0)), .sl ((limbs (Int.natAbs ((rval (rs.getD (Int.toNat i) z0)) * (rval (ss.getD (Int.toNat j) z0))))).length) (lm (limbs (Int.natAbs ((rval (rs.getD (Int.toNat i) z0)) * (rval (ss.getD (Int.toNat j) z0))))))]), .r (.agg [.bool (decide (((rval (os.getD (Int.toNat (IntKind.i64.wrap (i + j))) z0)) + ((rval (rs.getD (Int.toNat i) z0)) * (rval (ss.getD (Int.toNat j) z0)))) < 0)), .sl ((limbs (Int.natAbs ((rval (os.getD (Int.toNat (IntKind.i64.wrap (i + j))) z0)) + ((rval (rs.getD (Int.toNat i) z0)) * (rval (ss.getD (Int.toNat j) z0)))))).length) (lm (limbs (Int.natAbs ((rval (os.getD (Int.toNat (IntKind.i64.wrap (i + j))) z0)) + ((rval (rs.getD (Int.toNat i) z0)) * (rval (ss.getD (Int.toNat j) z0)))))))]), .l (pc (os.set (Int.toNat (IntKind.i64.wrap (i + j))) (cn ((rval (os.getD (Int.toNat (IntKind.i64.wrap (i + j))) z0)) + ((rval (rs.getD (Int.toNat i) z0)) * (rval (ss.getD (Int.toNat j) z0)))))))] [0, 1, 5, 6, 7, 8, 9] (by kernel_rfl) ⟨c1, n1, (own_pcI n2 n1), n3, (take_pcI n3), n4, (take_pcI n4), n5, n6, n1, (lay_pcI (r := cn ((rval (os.getD (Int.toNat (IntKind.i64.wrap (i + j))) z0)) + ((rval (rs.getD (Int.toNat i) z0)) * (rval (ss.getD (Int.toNat j) z0))))) n2 n1), trivial⟩)

theorem Try.k66i_2 (rs : List Rn) (ss : List Rn) (n : Int) (m : Int) (k : Nat) (os : List Rn) (i : Int) (j : Int)  (c1 : (decide (j < m)) = false) : RunsW Try.ir Try.c66i (Try.s66i rs ss n m k os i j) (.exit 2) (Try.s66i rs ss n m k os i j) :=
  (RunsW.script (t := (.val (.sl rs.length (pc rs)) :: (.val (.sl ss.length (pc ss)) :: (dds 3 (.val (.int .i64 n) :: (.val (.int .i64 m) :: (.own 2 k (pc os) :: (.val (.int .i64 i) :: (.val (.int .i64 j) :: (dds 50 [])))))))))) (ex := (.exit 2)) (ps := [(decide (j < m)) = false]) TAA_holds 400 [.b false] [0, 1, 5, 6, 7, 8, 9] (by kernel_rfl) ⟨c1, trivial⟩)

def Try.c66 : ICode := .seq (.seq (.region false [oM 27 8,
   oM 28 5,
   oB 29 .lss 27 28])
  (.cond (.t 29) (.skip)
  (.exit 0)))
  (.seq (.block 1 (.seq (.region false [o1 9 (.mov (.c (.int .i64 0)))])
  (.block 2 (.loop (.seq (.seq (.region false [oM 32 9,
   oM 33 6,
   oB 34 .lss 32 33])
  (.cond (.t 34) (.skip)
  (.exit 2)))
  (.seq (.block 3 (.region true [o1 37 (.cpy 7),
   oM 38 8,
   oM 39 9,
   oB 40 .add 38 39,
   o1 41 (.cpy 7),
   oM 42 8,
   oM 43 9,
   oB 44 .add 42 43,
   o1 45 (.ixo 41 7 (.t 44) 2),
   o1 46 (.ld 45 7 2 false),
   oM 47 0,
   oM 48 8,
   o1 49 (.ixa 47 (.t 48) 2),
   o1 50 (.ld 49 49 2 false),
   oM 51 1,
   oM 52 9,
   o1 53 (.ixa 51 (.t 52) 2),
   o1 54 (.ld 53 53 2 false),
   oC 55 84 [50, 54],
   oC 56 83 [46, 55],
   o1 57 (.ixo 37 7 (.t 40) 2),
   oN (.st 57 7 2 (.t 56))]))
  (.region false [oM 35 9,
   o1 36 (.bin .add (.t 35) (.c (.int .i64 1))),
   oM 9 36])))))))
  (.region false [oM 30 8,
   o1 31 (.bin .add (.t 30) (.c (.int .i64 1))),
   oM 8 31]))
def Try.s66 (rs : List Rn) (ss : List Rn) (n : Int) (m : Int) (k : Nat) (os : List Rn) (i : Int) : State := (.val (.sl rs.length (pc rs)) :: (.val (.sl ss.length (pc ss)) :: (dds 3 (.val (.int .i64 n) :: (.val (.int .i64 m) :: (.own 2 k (pc os) :: (.val (.int .i64 i) :: (dds 51 []))))))))
theorem Try.k66_1 (rs : List Rn) (ss : List Rn) (n : Int) (m : Int) (k : Nat) (os : List Rn) (i : Int) (ps : List Rn) (c1 : (decide (i < n)) = true)
    (hl1 : RunsW Try.ir (.loop Try.c66i) (Try.s66i rs ss n m k os i 0) (.exit 2) (Try.s66i rs ss n m k ps i m)) : RunsW Try.ir Try.c66 (Try.s66 rs ss n m k os i) .norm (Try.s66 rs ss n m k ps (IntKind.i64.wrap (i + 1))) :=
  (RunsW.seq (RunsW.script (t := (.val (.sl rs.length (pc rs)) :: (.val (.sl ss.length (pc ss)) :: (dds 3 (.val (.int .i64 n) :: (.val (.int .i64 m) :: (.own 2 k (pc os) :: (.val (.int .i64 i) :: (dds 18 (.val (.int .i64 i) :: (.val (.int .i64 n) :: (.val (.bool (decide (i < n))) :: (dds 30 []))))))))))))) (ex := .norm) (ps := [(decide (i < n)) = true]) TAA_holds 400 [.b true] [0, 1, 5, 6, 7, 8, 27, 28, 29] (by kernel_rfl) ⟨c1, trivial⟩)
    (RunsW.seq (RunsW.block_norm (RunsW.seq (RunsW.script (t := (.val (.sl rs.length (pc rs)) :: (.val (.sl ss.length (pc ss)) :: (dds 3 (.val (.int .i64 n) :: (.val (.int .i64 m) :: (.own 2 k (pc os) :: (.val (.int .i64 i) :: (.val (.int .i64 0) :: (dds 50 [])))))))))) (ex := .norm) (ps := []) TAA_holds 400 [] [0, 1, 5, 6, 7, 8, 9] (by kernel_rfl) trivial)
    (RunsW.block hl1)))
    (RunsW.script (t := (.val (.sl rs.length (pc rs)) :: (.val (.sl ss.length (pc ss)) :: (dds 3 (.val (.int .i64 n) :: (.val (.int .i64 m) :: (.own 2 k (pc ps) :: (.val (.int .i64 (IntKind.i64.wrap (i + 1))) :: (dds 51 []))))))))) (ex := .norm) (ps := []) TAA_holds 400 [] [0, 1, 5, 6, 7, 8] (by kernel_rfl) trivial)))

theorem Try.k66_2 (rs : List Rn) (ss : List Rn) (n : Int) (m : Int) (k : Nat) (os : List Rn) (i : Int)  (c1 : (decide (i < n)) = false) : RunsW Try.ir Try.c66 (Try.s66 rs ss n m k os i) (.exit 0) (Try.s66 rs ss n m k os i) :=
  (RunsW.seq_out (RunsW.script (t := (.val (.sl rs.length (pc rs)) :: (.val (.sl ss.length (pc ss)) :: (dds 3 (.val (.int .i64 n) :: (.val (.int .i64 m) :: (.own 2 k (pc os) :: (.val (.int .i64 i) :: (dds 51 []))))))))) (ex := (.exit 0)) (ps := [(decide (i < n)) = false]) TAA_holds 400 [.b false] [0, 1, 5, 6, 7, 8] (by kernel_rfl) ⟨c1, trivial⟩) (by intro e; cases e))

theorem Try.run66_1 (rs ss : List Rn) (drs dss : Int) (c1 : ((IntKind.i64.wrap (drs + 1)) == 0) = true)
    (n1 : Runs Try.ir 82 [.sl rs.length (pc rs)] (.int .i64 drs))
    (n2 : Runs Try.ir 82 [.sl ss.length (pc ss)] (.int .i64 dss)) : Runs Try.ir 66 [.sl rs.length (pc rs), .sl ss.length (pc ss)] (.fresh 2 0 []) :=
  Runs.of_bodyW (fn := Try.i66) (s := (.val (.sl rs.length (pc rs)) :: (.val (.sl ss.length (pc ss)) :: (dds 2 (.own 2 0 [] :: (.val (.int .i64 (IntKind.i64.wrap (drs + 1))) :: (.val (.int .i64 (IntKind.i64.wrap (dss + 1))) :: (dds 3 (.val (.sl rs.length (pc rs)) :: (.val (.int .i64 drs) :: (.val (.int .i64 (IntKind.i64.wrap (drs + 1))) :: (.val (.sl ss.length (pc ss)) :: (.val (.int .i64 dss) :: (.val (.int .i64 (IntKind.i64.wrap (dss + 1))) :: (.val (.int .i64 (IntKind.i64.wrap (drs + 1))) :: (.val (.bool ((IntKind.i64.wrap (drs + 1)) == 0)) :: (.val (.bool ((IntKind.i64.wrap (drs + 1)) == 0)) :: (.val (.undef) :: (.val (.undef) :: (.val (.bool true) :: (dds 38 []))))))))))))))))))))) (ex := .ret) rfl rfl
    (RunsW.seq (RunsW.script (t := (.val (.sl rs.length (pc rs)) :: (.val (.sl ss.length (pc ss)) :: (dds 2 (.own 2 0 [] :: (dds 55 [])))))) (ex := .norm) (ps := []) TAA_holds 400 [] [0, 1, 4] (by kernel_rfl) trivial)
    (RunsW.seq (RunsW.script (t := (.val (.sl rs.length (pc rs)) :: (.val (.sl ss.length (pc ss)) :: (dds 2 (.own 2 0 [] :: (.val (.int .i64 (IntKind.i64.wrap (drs + 1))) :: (.val (.int .i64 (IntKind.i64.wrap (dss + 1))) :: (dds 3 (.val (.sl rs.length (pc rs)) :: (.val (.int .i64 drs) :: (.val (.int .i64 (IntKind.i64.wrap (drs + 1))) :: (.val (.sl ss.length (pc ss)) :: (.val (.int .i64 dss) :: (.val (.int .i64 (IntKind.i64.wrap (dss + 1))) :: (dds 44 []))))))))))))))) (ex := .norm) (ps := [Runs Try.ir 82 [.sl rs.length (pc rs)] (.int .i64 drs), Runs Try.ir 82 [.sl ss.length (pc ss)] (.int .i64 dss)]) TAA_holds 400 [.r (.int .i64 drs), .r (.int .i64 dss)] [0, 1, 4, 5, 6, 10, 11, 12, 13, 14, 15] (by kernel_rfl) ⟨n1, n2, trivial⟩)
    (RunsW.seq_out (RunsW.script (t := (.val (.sl rs.length (pc rs)) :: (.val (.sl ss.length (pc ss)) :: (dds 2 (.own 2 0 [] :: (.val (.int .i64 (IntKind.i64.wrap (drs + 1))) :: (.val (.int .i64 (IntKind.i64.wrap (dss + 1))) :: (dds 3 (.val (.sl rs.length (pc rs)) :: (.val (.int .i64 drs) :: (.val (.int .i64 (IntKind.i64.wrap (drs + 1))) :: (.val (.sl ss.length (pc ss)) :: (.val (.int .i64 dss) :: (.val (.int .i64 (IntKind.i64.wrap (dss + 1))) :: (.val (.int .i64 (IntKind.i64.wrap (drs + 1))) :: (.val (.bool ((IntKind.i64.wrap (drs + 1)) == 0)) :: (.val (.bool ((IntKind.i64.wrap (drs + 1)) == 0)) :: (.val (.undef) :: (.val (.undef) :: (.val (.bool true) :: (dds 38 []))))))))))))))))))))) (ex := .ret) (ps := [((IntKind.i64.wrap (drs + 1)) == 0) = true, true = true]) TAA_holds 400 [.b true, .b true] [0, 1, 4, 5, 6, 10, 11, 12, 13, 14, 15, 16, 17, 18, 19, 20, 21] (by kernel_rfl) ⟨c1, rfl, trivial⟩) (by intro e; cases e)))) (by intro i e; cases e) rfl

theorem Try.run66_2 (rs ss : List Rn) (drs dss : Int) (c1 : ((IntKind.i64.wrap (drs + 1)) == 0) = false)
    (c2 : ((IntKind.i64.wrap (dss + 1)) == 0) = true)
    (n1 : Runs Try.ir 82 [.sl rs.length (pc rs)] (.int .i64 drs))
    (n2 : Runs Try.ir 82 [.sl ss.length (pc ss)] (.int .i64 dss)) : Runs Try.ir 66 [.sl rs.length (pc rs), .sl ss.length (pc ss)] (.fresh 2 0 []) :=
  Runs.of_bodyW (fn := Try.i66) (s := (.val (.sl rs.length (pc rs)) :: (.val (.sl ss.length (pc ss)) :: (dds 2 (.own 2 0 [] :: (.val (.int .i64 (IntKind.i64.wrap (drs + 1))) :: (.val (.int .i64 (IntKind.i64.wrap (dss + 1))) :: (dds 3 (.val (.sl rs.length (pc rs)) :: (.val (.int .i64 drs) :: (.val (.int .i64 (IntKind.i64.wrap (drs + 1))) :: (.val (.sl ss.length (pc ss)) :: (.val (.int .i64 dss) :: (.val (.int .i64 (IntKind.i64.wrap (dss + 1))) :: (.val (.int .i64 (IntKind.i64.wrap (drs + 1))) :: (.val (.bool ((IntKind.i64.wrap (drs + 1)) == 0)) :: (.val (.bool ((IntKind.i64.wrap (drs + 1)) == 0)) :: (.val (.int .i64 (IntKind.i64.wrap (dss + 1))) :: (.val (.bool ((IntKind.i64.wrap (dss + 1)) == 0)) :: (.val (.bool ((IntKind.i64.wrap (dss + 1)) == 0)) :: (dds 38 []))))))))))))))))))))) (ex := .ret) rfl rfl
    (RunsW.seq (RunsW.script (t := (.val (.sl rs.length (pc rs)) :: (.val (.sl ss.length (pc ss)) :: (dds 2 (.own 2 0 [] :: (dds 55 [])))))) (ex := .norm) (ps := []) TAA_holds 400 [] [0, 1, 4] (by kernel_rfl) trivial)
    (RunsW.seq (RunsW.script (t := (.val (.sl rs.length (pc rs)) :: (.val (.sl ss.length (pc ss)) :: (dds 2 (.own 2 0 [] :: (.val (.int .i64 (IntKind.i64.wrap (drs + 1))) :: (.val (.int .i64 (IntKind.i64.wrap (dss + 1))) :: (dds 3 (.val (.sl rs.length (pc rs)) :: (.val (.int .i64 drs) :: (.val (.int .i64 (IntKind.i64.wrap (drs + 1))) :: (.val (.sl ss.length (pc ss)) :: (.val (.int .i64 dss) :: (.val (.int .i64 (IntKind.i64.wrap (dss + 1))) :: (dds 44 []))))))))))))))) (ex := .norm) (ps := [Runs Try.ir 82 [.sl rs.length (pc rs)] (.int .i64 drs), Runs Try.ir 82 [.sl ss.length (pc ss)] (.int .i64 dss)]) TAA_holds 400 [.r (.int .i64 drs), .r (.int .i64 dss)] [0, 1, 4, 5, 6, 10, 11, 12, 13, 14, 15] (by kernel_rfl) ⟨n1, n2, trivial⟩)
    (RunsW.seq_out (RunsW.script (t := (.val (.sl rs.length (pc rs)) :: (.val (.sl ss.length (pc ss)) :: (dds 2 (.own 2 0 [] :: (.val (.int .i64 (IntKind.i64.wrap (drs + 1))) :: (.val (.int .i64 (IntKind.i64.wrap (dss + 1))) :: (dds 3 (.val (.sl rs.length (pc rs)) :: (.val (.int .i64 drs) :: (.val (.int .i64 (IntKind.i64.wrap (drs + 1))) :: (.val (.sl ss.length (pc ss)) :: (.val (.int .i64 dss) :: (.val (.int .i64 (IntKind.i64.wrap (dss + 1))) :: (.val (.int .i64 (IntKind.i64.wrap (drs + 1))) :: (.val (.bool ((IntKind.i64.wrap (drs + 1)) == 0)) :: (.val (.bool ((IntKind.i64.wrap (drs + 1)) == 0)) :: (.val (.int .i64 (IntKind.i64.wrap (dss + 1))) :: (.val (.bool ((IntKind.i64.wrap (dss + 1)) == 0)) :: (.val (.bool ((IntKind.i64.wrap (dss + 1)) == 0)) :: (dds 38 []))))))))))))))))))))) (ex := .ret) (ps := [((IntKind.i64.wrap (drs + 1)) == 0) = false, ((IntKind.i64.wrap (dss + 1)) == 0) = true]) TAA_holds 400 [.b false, .b true] [0, 1, 4, 5, 6, 10, 11, 12, 13, 14, 15, 16, 17, 18, 19, 20, 21] (by kernel_rfl) ⟨c1, c2, trivial⟩) (by intro e; cases e)))) (by intro i e; cases e) rfl

theorem Try.run66_3 (rs ss os ts : List Rn) (drs dss : Int) (k1 M : Nat) (c1 : ((IntKind.i64.wrap (drs + 1)) == 0) = false)
    (c2 : ((IntKind.i64.wrap (dss + 1)) == 0) = false)
    (n1 : Runs Try.ir 82 [.sl rs.length (pc rs)] (.int .i64 drs))
    (n2 : Runs Try.ir 82 [.sl ss.length (pc ss)] (.int .i64 dss))
    (n3 : 0 ≤ (IntKind.i64.wrap ((IntKind.i64.wrap ((IntKind.i64.wrap (drs + 1)) + (IntKind.i64.wrap (dss + 1)))) - 1)) ∧ (IntKind.i64.wrap ((IntKind.i64.wrap ((IntKind.i64.wrap (drs + 1)) + (IntKind.i64.wrap (dss + 1)))) - 1)) ≤ 1048576)
    (hl4 : RunsW Try.ir (.loop Try.c66) ((.val (.sl rs.length (pc rs)) :: (.val (.sl ss.length (pc ss)) :: (dds 3 (.val (.int .i64 (IntKind.i64.wrap (drs + 1))) :: (.val (.int .i64 (IntKind.i64.wrap (dss + 1))) :: (.own 2 (Int.toNat (IntKind.i64.wrap ((IntKind.i64.wrap ((IntKind.i64.wrap (drs + 1)) + (IntKind.i64.wrap (dss + 1)))) - 1))) (replA [.bool false, .sl 0 []] (Int.toNat (IntKind.i64.wrap ((IntKind.i64.wrap ((IntKind.i64.wrap (drs + 1)) + (IntKind.i64.wrap (dss + 1)))) - 1)))) :: (.val (.int .i64 0) :: (dds 51 []))))))))) (.exit 0) (Try.s66 rs ss (IntKind.i64.wrap (drs + 1)) (IntKind.i64.wrap (dss + 1)) M os (IntKind.i64.wrap (drs + 1))))
    (n5 : Runs Try.ir 81 [.sl M (pc os)] (.fresh 2 k1 (pc ts))) : Runs Try.ir 66 [.sl rs.length (pc rs), .sl ss.length (pc ss)] (.fresh 2 k1 (pc ts)) :=
  Runs.of_bodyW (fn := Try.i66) (s := (.val (.sl rs.length (pc rs)) :: (.val (.sl ss.length (pc ss)) :: (dds 2 (.own 2 k1 (pc ts) :: (.val (.int .i64 (IntKind.i64.wrap (drs + 1))) :: (.val (.int .i64 (IntKind.i64.wrap (dss + 1))) :: (.val (.sl M (pc os)) :: (.val (.int .i64 (IntKind.i64.wrap (drs + 1))) :: (dds 49 (.val (.sl M (pc os)) :: (dds 1 [])))))))))))) (ex := .ret) rfl rfl
    (RunsW.seq (RunsW.script (t := (.val (.sl rs.length (pc rs)) :: (.val (.sl ss.length (pc ss)) :: (dds 2 (.own 2 0 [] :: (dds 55 [])))))) (ex := .norm) (ps := []) TAA_holds 400 [] [0, 1, 4] (by kernel_rfl) trivial)
    (RunsW.seq (RunsW.script (t := (.val (.sl rs.length (pc rs)) :: (.val (.sl ss.length (pc ss)) :: (dds 2 (.own 2 0 [] :: (.val (.int .i64 (IntKind.i64.wrap (drs + 1))) :: (.val (.int .i64 (IntKind.i64.wrap (dss + 1))) :: (dds 3 (.val (.sl rs.length (pc rs)) :: (.val (.int .i64 drs) :: (.val (.int .i64 (IntKind.i64.wrap (drs + 1))) :: (.val (.sl ss.length (pc ss)) :: (.val (.int .i64 dss) :: (.val (.int .i64 (IntKind.i64.wrap (dss + 1))) :: (dds 44 []))))))))))))))) (ex := .norm) (ps := [Runs Try.ir 82 [.sl rs.length (pc rs)] (.int .i64 drs), Runs Try.ir 82 [.sl ss.length (pc ss)] (.int .i64 dss)]) TAA_holds 400 [.r (.int .i64 drs), .r (.int .i64 dss)] [0, 1, 4, 5, 6, 10, 11, 12, 13, 14, 15] (by kernel_rfl) ⟨n1, n2, trivial⟩)
    (RunsW.seq (RunsW.script (t := (.val (.sl rs.length (pc rs)) :: (.val (.sl ss.length (pc ss)) :: (dds 2 (.own 2 0 [] :: (.val (.int .i64 (IntKind.i64.wrap (drs + 1))) :: (.val (.int .i64 (IntKind.i64.wrap (dss + 1))) :: (dds 3 (.val (.sl rs.length (pc rs)) :: (.val (.int .i64 drs) :: (.val (.int .i64 (IntKind.i64.wrap (drs + 1))) :: (.val (.sl ss.length (pc ss)) :: (.val (.int .i64 dss) :: (.val (.int .i64 (IntKind.i64.wrap (dss + 1))) :: (.val (.int .i64 (IntKind.i64.wrap (drs + 1))) :: (.val (.bool ((IntKind.i64.wrap (drs + 1)) == 0)) :: (.val (.bool ((IntKind.i64.wrap (drs + 1)) == 0)) :: (.val (.int .i64 (IntKind.i64.wrap (dss + 1))) :: (.val (.bool ((IntKind.i64.wrap (dss + 1)) == 0)) :: (.val (.bool ((IntKind.i64.wrap (dss + 1)) == 0)) :: (dds 38 []))))))))))))))))))))) (ex := .norm) (ps := [((IntKind.i64.wrap (drs + 1)) == 0) = false, ((IntKind.i64.wrap (dss + 1)) == 0) = false]) TAA_holds 400 [.b false, .b false] [0, 1, 4, 5, 6, 10, 11, 12, 13, 14, 15, 16, 17, 18, 19, 20, 21] (by kernel_rfl) ⟨c1, c2, trivial⟩)
    (RunsW.seq (RunsW.script (t := (.val (.sl rs.length (pc rs)) :: (.val (.sl ss.length (pc ss)) :: (dds 2 (.own 2 0 [] :: (.val (.int .i64 (IntKind.i64.wrap (drs + 1))) :: (.val (.int .i64 (IntKind.i64.wrap (dss + 1))) :: (.own 2 (Int.toNat (IntKind.i64.wrap ((IntKind.i64.wrap ((IntKind.i64.wrap (drs + 1)) + (IntKind.i64.wrap (dss + 1)))) - 1))) (replA [.bool false, .sl 0 []] (Int.toNat (IntKind.i64.wrap ((IntKind.i64.wrap ((IntKind.i64.wrap (drs + 1)) + (IntKind.i64.wrap (dss + 1)))) - 1)))) :: (dds 2 (.val (.sl rs.length (pc rs)) :: (.val (.int .i64 drs) :: (.val (.int .i64 (IntKind.i64.wrap (drs + 1))) :: (.val (.sl ss.length (pc ss)) :: (.val (.int .i64 dss) :: (.val (.int .i64 (IntKind.i64.wrap (dss + 1))) :: (.val (.int .i64 (IntKind.i64.wrap (drs + 1))) :: (.val (.bool ((IntKind.i64.wrap (drs + 1)) == 0)) :: (.val (.bool ((IntKind.i64.wrap (drs + 1)) == 0)) :: (.val (.int .i64 (IntKind.i64.wrap (dss + 1))) :: (.val (.bool ((IntKind.i64.wrap (dss + 1)) == 0)) :: (.val (.bool ((IntKind.i64.wrap (dss + 1)) == 0)) :: (.val (.int .i64 (IntKind.i64.wrap (drs + 1))) :: (.val (.int .i64 (IntKind.i64.wrap (dss + 1))) :: (.val (.int .i64 (IntKind.i64.wrap ((IntKind.i64.wrap (drs + 1)) + (IntKind.i64.wrap (dss + 1))))) :: (.val (.int .i64 (IntKind.i64.wrap ((IntKind.i64.wrap ((IntKind.i64.wrap (drs + 1)) + (IntKind.i64.wrap (dss + 1)))) - 1))) :: (dds 34 [])))))))))))))))))))))))))) (ex := .norm) (ps := [0 ≤ (IntKind.i64.wrap ((IntKind.i64.wrap ((IntKind.i64.wrap (drs + 1)) + (IntKind.i64.wrap (dss + 1)))) - 1)) ∧ (IntKind.i64.wrap ((IntKind.i64.wrap ((IntKind.i64.wrap (drs + 1)) + (IntKind.i64.wrap (dss + 1)))) - 1)) ≤ 1048576]) TAA_holds 400 [] [0, 1, 4, 5, 6, 7, 10, 11, 12, 13, 14, 15, 16, 17, 18, 19, 20, 21, 22, 23, 24, 25] (by kernel_rfl) ⟨n3, trivial⟩)
    (RunsW.seq (RunsW.seq (RunsW.script (t := (.val (.sl rs.length (pc rs)) :: (.val (.sl ss.length (pc ss)) :: (dds 3 (.val (.int .i64 (IntKind.i64.wrap (drs + 1))) :: (.val (.int .i64 (IntKind.i64.wrap (dss + 1))) :: (.own 2 (Int.toNat (IntKind.i64.wrap ((IntKind.i64.wrap ((IntKind.i64.wrap (drs + 1)) + (IntKind.i64.wrap (dss + 1)))) - 1))) (replA [.bool false, .sl 0 []] (Int.toNat (IntKind.i64.wrap ((IntKind.i64.wrap ((IntKind.i64.wrap (drs + 1)) + (IntKind.i64.wrap (dss + 1)))) - 1)))) :: (.val (.int .i64 0) :: (dds 51 []))))))))) (ex := .norm) (ps := []) TAA_holds 400 [] [0, 1, 5, 6, 7, 8] (by kernel_rfl) trivial)
    (RunsW.block hl4))
    (RunsW.script (t := (.val (.sl rs.length (pc rs)) :: (.val (.sl ss.length (pc ss)) :: (dds 2 (.own 2 k1 (pc ts) :: (.val (.int .i64 (IntKind.i64.wrap (drs + 1))) :: (.val (.int .i64 (IntKind.i64.wrap (dss + 1))) :: (.val (.sl M (pc os)) :: (.val (.int .i64 (IntKind.i64.wrap (drs + 1))) :: (dds 49 (.val (.sl M (pc os)) :: (dds 1 [])))))))))))) (ex := .ret) (ps := [Runs Try.ir 81 [.sl M (pc os)] (.fresh 2 k1 (pc ts))]) TAA_holds 400 [.r (.fresh 2 k1 (pc ts))] [0, 1, 4, 5, 6, 7, 8, 58] (by kernel_rfl) ⟨n5, trivial⟩)))))) (by intro i e; cases e) rfl


theorem atimes_run {K : Nat} {rs ss : List Rn} (hr : ∀ r ∈ rs, Good K r) (hs : ∀ r ∈ ss, Good K r) (hK : 2 * K + rs.length < 1048576) (hM : rs.length + ss.length ≤ 1048576) :
    Runs Try.ir 66 [.sl rs.length (pc rs), .sl ss.length (pc ss)] (.fresh 2 (pmul (vals rs) (vals ss)).length (pk (pmul (vals rs) (vals ss)))) := by
  have d1 := degree_run (fun r h => (hr r h).mono (show K ≤ 1048576 by omega)) (by omega)
  have d2 := degree_run (fun r h => (hs r h).mono (show K ≤ 1048576 by omega)) (by omega)
  have l1 := topN_le (vals rs) rs.length
  have l2 := topN_le (vals ss) ss.length
  have e1 : IntKind.i64.wrap ((((topN (vals rs) rs.length : Nat) : Int) - 1) + 1) = ((topN (vals rs) rs.length : Nat) : Int) := by rw [w64 (by omega) (by omega)]; omega
  have e2 : IntKind.i64.wrap ((((topN (vals ss) ss.length : Nat) : Int) - 1) + 1) = ((topN (vals ss) ss.length : Nat) : Int) := by rw [w64 (by omega) (by omega)]; omega
  by_cases z1 : topN (vals rs) rs.length = 0
  · have h := Try.run66_1 rs ss _ _ (by rw [e1, z1]; rfl) d1 d2
    rw [pmul_zero_left (by rw [vals_length]; exact z1)]
    exact h
  by_cases z2 : topN (vals ss) ss.length = 0
  · have h := Try.run66_2 rs ss _ _ (by rw [e1, beq_eq_false_iff_ne]; omega) (by rw [e2, z2]; rfl) d1 d2
    rw [pmul_zero_right (by rw [vals_length]; exact z2)]
    exact h
  have hmul := tOut_mul rs ss _ _ (topN (vals rs) rs.length + topN (vals ss) ss.length - 1) rfl rfl (by omega)
  have hgood := tOut_good (os := List.replicate (topN (vals rs) rs.length + topN (vals ss) ss.length - 1) z0) hr hs (good_zeros _ _) (topN (vals ss) ss.length) (topN (vals rs) rs.length)
  have hlen := tOut_length rs ss (List.replicate (topN (vals rs) rs.length + topN (vals ss) ss.length - 1) z0) (topN (vals ss) ss.length) (topN (vals rs) rs.length)
  rw [List.length_replicate] at hlen
  have key : ∀ a b : Nat, a = topN (vals rs) rs.length → b = topN (vals ss) ss.length → RunsW Try.ir (.loop Try.c66) (Try.s66 rs ss a b (a + b - 1) (List.replicate (a + b - 1) z0) 0) (.exit 0) (Try.s66 rs ss a b (a + b - 1) (tOut rs ss (List.replicate (a + b - 1) z0) b a) a) := by
    intro a b ha hb
    have hl := RunsW.up (prog := Try.ir) (c := Try.c66) (ex := .exit 0) (fin := Try.s66 rs ss a b (a + b - 1) (tOut rs ss (List.replicate (a + b - 1) z0) b a) a)
      (fun i => Try.s66 rs ss a b (a + b - 1) (tOut rs ss (List.replicate (a + b - 1) z0) b i) (i : Nat)) a (by intro e; cases e) ?_ ?_ 0 (Nat.zero_le _)
    · exact hl
    · intro i hi
      have ei : IntKind.i64.wrap (((i : Nat) : Int) + 1) = ((i + 1 : Nat) : Int) := by rw [w64 (by omega) (by omega)]; omega
      have hgo := tOut_good (os := List.replicate (a + b - 1) z0) hr hs (good_zeros _ _) b i
      have hlo := tOut_length rs ss (List.replicate (a + b - 1) z0) b i
      rw [List.length_replicate] at hlo
      have k := Try.k66_1 rs ss a b (a + b - 1) (tOut rs ss (List.replicate (a + b - 1) z0) b i) (i : Nat) (tOut rs ss (List.replicate (a + b - 1) z0) b (i + 1)) (by simp; omega) ?_
      · exact k.to rfl (by rw [ei])
      · rw [tOut]
        generalize tOut rs ss (List.replicate (a + b - 1) z0) b i = os at *
        have hin := RunsW.up (prog := Try.ir) (c := Try.c66i) (ex := .exit 2) (fin := Try.s66i rs ss a b (a + b - 1) (tIn rs ss os i b) i b)
          (fun j => Try.s66i rs ss a b (a + b - 1) (tIn rs ss os i j) (i : Nat) (j : Nat)) b (by intro e; cases e) ?_ ?_ 0 (Nat.zero_le _)
        · exact hin
        · intro j hj
          have ej : IntKind.i64.wrap (((j : Nat) : Int) + 1) = ((j + 1 : Nat) : Int) := by rw [w64 (by omega) (by omega)]; omega
          have eij : IntKind.i64.wrap (((i : Nat) : Int) + ((j : Nat) : Int)) = ((i + j : Nat) : Int) := by rw [w64 (by omega) (by omega)]; omega
          have hli := tIn_length rs ss os i j
          have hfar := tIn_far rs ss os i j (i + j) (Nat.le_refl _)
          obtain ⟨gr1, gr2⟩ := good_getD hr i
          obtain ⟨gs1, gs2⟩ := good_getD hs j
          obtain ⟨go1, go2⟩ := good_getD hgo (i + j)
          have hp := (Fits.mul (good_getD hr i).fits (good_getD hs j).fits).len
          have k := Try.k66i_1 rs ss a b (a + b - 1) (tIn rs ss os i j) (i : Nat) (j : Nat) (by simp; omega) (by rw [eij]; omega) (by omega) (by omega) (by omega)
            (by simp only [Int.toNat_natCast]; exact wmul_run gr1 gs1 (by omega))
            (by
              simp only [Int.toNat_natCast, eij, hfar]
              have := wadd_run (na := (os.getD (i + j) z0).1) (nb := decide (rval (rs.getD i z0) * rval (ss.getD j z0) < 0)) go1 (big_u32 (rval (rs.getD i z0) * rval (ss.getD j z0)).natAbs) (by omega) (by omega)
              rw [rv_big] at this
              exact this)
          refine k.to rfl ?_
          simp only [Int.toNat_natCast, eij, ej, tIn]
        · exact Try.k66i_2 rs ss a b (a + b - 1) (tIn rs ss os i b) (i : Nat) (b : Nat) (by simp)
    · exact Try.k66_2 rs ss a b (a + b - 1) (tOut rs ss (List.replicate (a + b - 1) z0) b a) (a : Nat) (by simp)
  have hl := key _ _ rfl rfl
  have e3 : IntKind.i64.wrap ((IntKind.i64.wrap ((((topN (vals rs) rs.length : Nat) : Int)) + (((topN (vals ss) ss.length : Nat) : Int)))) - 1) = ((topN (vals rs) rs.length + topN (vals ss) ss.length - 1 : Nat) : Int) := by
    rw [w64 (n := ((topN (vals rs) rs.length : Nat) : Int) + ((topN (vals ss) ss.length : Nat) : Int)) (by omega) (by omega), w64 (by omega) (by omega)]; omega
  have ht := atrim_run (fun r h => (hgood r h).mono (show 2 * K + topN (vals rs) rs.length ≤ 1048576 by omega)) (by omega)
  rw [hmul, hlen] at ht
  exact Try.run66_3 rs ss _ _ _ _ _ _ (by rw [e1, beq_eq_false_iff_ne]; omega) (by rw [e2, beq_eq_false_iff_ne]; omega) d1 d2 (by rw [e1, e2, e3]; omega) (by rw [e1, e2, e3, Int.toNat_natCast, repl_pc]; exact hl) ht

def TAB : Table := TAA
theorem TAB_holds : THolds Try.ir TAB := TAA_holds
end Go.Proofs.Ythakfjlnhldehaa
