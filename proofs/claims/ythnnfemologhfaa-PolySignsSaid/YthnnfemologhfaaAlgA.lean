/- The package algebra: degrees, canonical forms, sums and differences. -/
import Derived.Test.YthnnfemologhfaaWideC
import Derived.Test.YthnnfemologhfaaPolys
namespace Go.Proofs.Ythnnfemologhfaa
open Go.Ai
set_option maxRecDepth 100000

def Try.c62 : ICode := .seq (.seq (.region false [oM 7 3,
   o1 8 (.bin .geq (.t 7) (.c (.int .i64 0))),
   oM 9 8,
   oG 10 (.mov (.t 0)) 9 true,
   oG 11 (.mov (.t 3)) 9 true,
   oG 12 (.ixa 10 (.t 11) 2) 9 true,
   oG 13 (.ld 12 12 2 false) 9 true,
   oG 14 (.call 73 [.t 13]) 9 true,
   oG 15 (.bin .eql (.t 14) (.c (.int .i64 0))) 9 true,
   o1 16 (.pick (.t 9) (.t 15) (.c (.bool false)))])
  (.cond (.t 16) (.skip)
  (.exit 0)))
  (.block 1 (.region false [oM 17 3,
   o1 18 (.bin .sub (.t 17) (.c (.int .i64 1))),
   oM 3 18]))
def Try.s62 (N : Nat) (cs : List AV) (i : Int) : State := (.val (.sl N cs) :: (dds 1 (.val (.int .i64 0) :: (.val (.int .i64 i) :: (dds 16 [])))))
theorem Try.k62_1 (N : Nat) (cs : List AV) (i : Int) (r : Rn) (v : Int) (c1 : (decide (i ≥ 0)) = true) (c2 : (v == 0) = true) (n1 : 0 ≤ i ∧ i < ((N : Nat) : Int)) (n2 : takeA (List.drop (Int.toNat i * 2) cs) 0 2 false = some (.agg [.bool r.1, .sl r.2.length (lm r.2)])) (n3 : Runs Try.ir 73 [.agg [.bool r.1, .sl r.2.length (lm r.2)]] (.int .i64 v)) : RunsW Try.ir Try.c62 (Try.s62 N cs i) .norm (Try.s62 N cs (IntKind.i64.wrap (i - 1))) :=
  RunsW.script (ps := [(decide (i ≥ 0)) = true, 0 ≤ i ∧ i < ((N : Nat) : Int), takeA (List.drop (Int.toNat i * 2) cs) 0 2 false = some (.agg [.bool r.1, .sl r.2.length (lm r.2)]), Runs Try.ir 73 [.agg [.bool r.1, .sl r.2.length (lm r.2)]] (.int .i64 v), (v == 0) = true]) TWC_holds 300 [.b true, .v (.agg [.bool r.1, .sl r.2.length (lm r.2)]), .r (.int .i64 v), .b true] [0, 2, 3] (by kernel_rfl) ⟨c1, n1, n2, n3, c2, trivial⟩
theorem Try.k62_2 (N : Nat) (cs : List AV) (i : Int) (r : Rn) (v : Int) (c1 : (decide (i ≥ 0)) = true) (c2 : (v == 0) = false) (n1 : 0 ≤ i ∧ i < ((N : Nat) : Int)) (n2 : takeA (List.drop (Int.toNat i * 2) cs) 0 2 false = some (.agg [.bool r.1, .sl r.2.length (lm r.2)])) (n3 : Runs Try.ir 73 [.agg [.bool r.1, .sl r.2.length (lm r.2)]] (.int .i64 v)) : RunsW Try.ir Try.c62 (Try.s62 N cs i) (.exit 0) (Try.s62 N cs i) :=
  RunsW.script (ps := [(decide (i ≥ 0)) = true, 0 ≤ i ∧ i < ((N : Nat) : Int), takeA (List.drop (Int.toNat i * 2) cs) 0 2 false = some (.agg [.bool r.1, .sl r.2.length (lm r.2)]), Runs Try.ir 73 [.agg [.bool r.1, .sl r.2.length (lm r.2)]] (.int .i64 v), (v == 0) = false]) TWC_holds 300 [.b true, .v (.agg [.bool r.1, .sl r.2.length (lm r.2)]), .r (.int .i64 v), .b false] [0, 2, 3] (by kernel_rfl) ⟨c1, n1, n2, n3, c2, trivial⟩
theorem Try.k62_3 (N : Nat) (cs : List AV) (i : Int) (c1 : (decide (i ≥ 0)) = false) : RunsW Try.ir Try.c62 (Try.s62 N cs i) (.exit 0) (Try.s62 N cs i) :=
  RunsW.script (ps := [(decide (i ≥ 0)) = false, false = false]) TWC_holds 300 [.b false, .b false] [0, 2, 3] (by kernel_rfl) ⟨c1, rfl, trivial⟩

theorem sgn_zero {n : Int} : sgnI n = 0 ↔ n = 0 := by unfold sgnI; split <;> (try split) <;> omega
theorem Try.loop62 (rs : List Rn) (hg : ∀ r ∈ rs, Good 1048576 r) (hN : rs.length ≤ 1048576) : ∀ m, m ≤ rs.length → RunsW Try.ir (.loop Try.c62) (Try.s62 rs.length (pc rs) (((m : Nat) : Int) - 1)) (.exit 0) (Try.s62 rs.length (pc rs) (((topN (vals rs) m : Nat) : Int) - 1)) := by
  intro m
  induction m with
  | zero =>
    intro _
    exact RunsW.loop_out (Try.k62_3 rs.length (pc rs) (((0 : Nat) : Int) - 1) (by simp)) (by intro e; cases e)
  | succ m ih =>
    intro hm
    have e0 : ((m + 1 : Nat) : Int) - 1 = ((m : Nat) : Int) := by omega
    have e1 : IntKind.i64.wrap (((m : Nat) : Int) - 1) = ((m : Nat) : Int) - 1 := w64 (by omega) (by omega)
    have hx := take_pc (rs := rs) (i := m) (by omega)
    have gm := good_getD hg m
    have hs := wsign_run (neg := (rs.getD m z0).1) gm.1 gm.2
    rw [e0]
    simp only [topN]
    rw [vals_getD]
    by_cases h0 : rval (rs.getD m z0) = 0
    · rw [if_pos h0]
      have h1 := Try.k62_1 rs.length (pc rs) ((m : Nat) : Int) (rs.getD m z0) (sgnI (rval (rs.getD m z0))) (by simp) (by rw [beq_iff_eq]; exact sgn_zero.2 h0) (by omega) (by rw [Int.toNat_natCast]; exact hx) hs
      rw [e1] at h1
      exact RunsW.loop h1 (ih (by omega))
    · rw [if_neg h0, e0]
      exact RunsW.loop_out (Try.k62_2 rs.length (pc rs) ((m : Nat) : Int) (rs.getD m z0) (sgnI (rval (rs.getD m z0))) (by simp) (by rw [beq_eq_false_iff_ne]; exact fun h => h0 (sgn_zero.1 h)) (by omega) (by rw [Int.toNat_natCast]; exact hx) hs) (by intro e; cases e)

theorem degree_run {rs : List Rn} (hg : ∀ r ∈ rs, Good 1048576 r) (hN : rs.length ≤ 1048576) : Runs Try.ir 62 [.sl rs.length (pc rs)] (.int .i64 (((topN (vals rs) rs.length : Nat) : Int) - 1)) := by
  have e1 : IntKind.i64.wrap (((rs.length : Nat) : Int) - 1) = ((rs.length : Nat) : Int) - 1 := w64 (by omega) (by omega)
  have hl : RunsW Try.ir (.loop Try.c62) (Try.s62 rs.length (pc rs) (IntKind.i64.wrap (((rs.length : Nat) : Int) - 1))) (.exit 0) (Try.s62 rs.length (pc rs) (((topN (vals rs) rs.length : Nat) : Int) - 1)) := by
    rw [e1]; exact Try.loop62 rs hg hN rs.length (Nat.le_refl _)
  exact Runs.of_bodyW (fn := Try.i62) (s := (.val (.sl rs.length (pc rs)) :: (dds 1 (.val (.int .i64 (((topN (vals rs) rs.length : Nat) : Int) - 1)) :: (.val (.int .i64 (((topN (vals rs) rs.length : Nat) : Int) - 1)) :: (dds 15 (.val (.int .i64 (((topN (vals rs) rs.length : Nat) : Int) - 1)) :: []))))))) (ex := .ret) rfl rfl
    (RunsW.seq (RunsW.script (t := (.val (.sl rs.length (pc rs)) :: (dds 1 (.val (.int .i64 0) :: (dds 17 []))))) (ex := .norm) (ps := []) TWC_holds 300 [] [0, 2] (by kernel_rfl) trivial)
    (RunsW.seq (RunsW.script (t := (.val (.sl rs.length (pc rs)) :: (dds 1 (.val (.int .i64 0) :: (.val (.int .i64 (IntKind.i64.wrap (((rs.length : Nat) : Int) - 1))) :: (dds 16 [])))))) (ex := .norm) (ps := []) TWC_holds 300 [] [0, 2, 3] (by kernel_rfl) trivial)
    (RunsW.seq (RunsW.block hl)
    (RunsW.script (t := (.val (.sl rs.length (pc rs)) :: (dds 1 (.val (.int .i64 (((topN (vals rs) rs.length : Nat) : Int) - 1)) :: (.val (.int .i64 (((topN (vals rs) rs.length : Nat) : Int) - 1)) :: (dds 15 (.val (.int .i64 (((topN (vals rs) rs.length : Nat) : Int) - 1)) :: []))))))) (ex := .ret) (ps := []) TWC_holds 300 [] [0, 2, 3, 19] (by kernel_rfl) trivial)))) (by intro i e; cases e) rfl

def Try.c92 : ICode := .seq (.region false [oB 16 .lss 15 14])
  (.seq (.cond (.t 16) (.skip)
  (.exit 0))
  (.seq (.block 1 (.seq (.region false [oM 17 15,
   oM 5 17])
  (.region false [o1 18 (.cpy 4),
   oM 19 5,
   oM 20 0,
   oM 21 5,
   o1 22 (.ixa 20 (.t 21) 2),
   o1 23 (.ld 22 22 2 false),
   oC 24 132 [23],
   o1 25 (.ixo 18 4 (.t 19) 2),
   oN (.st 25 4 2 (.t 24))])))
  (.region false [o1 26 (.bin .add (.t 15) (.c (.int .i64 1))),
   oM 15 26])))
def Try.s92 (N : Nat) (cs : List AV) (n : Nat) (os : List AV) (m : Int) (i : Int) : State := (.val (.sl N cs) :: (dds 1 (.own 2 0 [] :: (dds 1 (.own 2 n os :: (dds 9 (.val (.int .i64 m) :: (.val (.int .i64 i) :: (dds 12 [])))))))))
theorem Try.k92_1 (N : Nat) (cs : List AV) (n : Nat) (os : List AV) (m : Int) (i : Int) (ds : List AV) (r : Rn) (v : Int) (c1 : (decide (i < m)) = true) (n1 : 0 ≤ i ∧ i < ((N : Nat) : Int)) (n2 : takeA (List.drop (Int.toNat i * 2) cs) 0 2 false = some (.agg [.bool r.1, .sl r.2.length (lm r.2)])) (n3 : Runs Try.ir 132 [.agg [.bool r.1, .sl r.2.length (lm r.2)]] (.agg [.bool (decide (v < 0)), .sl ((limbs (Int.natAbs v)).length) (lm (limbs (Int.natAbs v)))])) (n4 : 0 ≤ i ∧ i < ((n : Nat) : Int)) (n5 : layA os (Int.toNat i * 2) [.bool (decide (v < 0)), .sl ((limbs (Int.natAbs v)).length) (lm (limbs (Int.natAbs v)))] = some ds) : RunsW Try.ir Try.c92 (Try.s92 N cs n os m i) .norm (Try.s92 N cs n ds m (IntKind.i64.wrap (i + 1))) :=
  RunsW.script (ps := [(decide (i < m)) = true, 0 ≤ i ∧ i < ((N : Nat) : Int), takeA (List.drop (Int.toNat i * 2) cs) 0 2 false = some (.agg [.bool r.1, .sl r.2.length (lm r.2)]), Runs Try.ir 132 [.agg [.bool r.1, .sl r.2.length (lm r.2)]] (.agg [.bool (decide (v < 0)), .sl ((limbs (Int.natAbs v)).length) (lm (limbs (Int.natAbs v)))]), 0 ≤ i ∧ i < ((n : Nat) : Int), layA os (Int.toNat i * 2) [.bool (decide (v < 0)), .sl ((limbs (Int.natAbs v)).length) (lm (limbs (Int.natAbs v)))] = some ds]) TWC_holds 300 [.b true, .v (.agg [.bool r.1, .sl r.2.length (lm r.2)]), .r (.agg [.bool (decide (v < 0)), .sl ((limbs (Int.natAbs v)).length) (lm (limbs (Int.natAbs v)))]), .l ds] [0, 2, 4, 14, 15] (by kernel_rfl) ⟨c1, n1, n2, n3, n4, n5, trivial⟩
theorem Try.k92_2 (N : Nat) (cs : List AV) (n : Nat) (os : List AV) (m : Int) (i : Int) (c1 : (decide (i < m)) = false) : RunsW Try.ir Try.c92 (Try.s92 N cs n os m i) (.exit 0) (Try.s92 N cs n os m i) :=
  RunsW.script (ps := [(decide (i < m)) = false]) TWC_holds 300 [.b false] [0, 2, 4, 14, 15] (by kernel_rfl) ⟨c1, trivial⟩
theorem Try.loop92 (rs : List Rn) (hg : ∀ r ∈ rs, Good 1048576 r) (hN : rs.length ≤ 1048576) (n : Nat) (hn : n ≤ rs.length) : ∀ (r i : Nat), i + r = n →
    RunsW Try.ir (.loop Try.c92) (Try.s92 rs.length (pc rs) n (pc (fillTo (fun j => cn (rval (rs.getD j z0))) i r)) ((n : Nat) : Int) ((i : Nat) : Int)) (.exit 0) (Try.s92 rs.length (pc rs) n (pc (fillTo (fun j => cn (rval (rs.getD j z0))) n 0)) ((n : Nat) : Int) ((n : Nat) : Int)) := by
  intro r
  induction r with
  | zero =>
    intro i hi
    have hi' : i = n := by omega
    subst hi'
    exact RunsW.loop_out (Try.k92_2 rs.length (pc rs) i _ ((i : Nat) : Int) ((i : Nat) : Int) (by simp)) (by intro e; cases e)
  | succ r ih =>
    intro i hi
    have ei : IntKind.i64.wrap (((i : Nat) : Int) + 1) = ((i + 1 : Nat) : Int) := by rw [w64 (by omega) (by omega)]; omega
    have hx := take_pc (rs := rs) (i := i) (by omega)
    have gm := good_getD hg i
    have hs := wtrim_run (neg := (rs.getD i z0).1) gm.1 gm.2
    have hst := lay_pc (rs := fillTo (fun j => cn (rval (rs.getD j z0))) i (r + 1)) (i := i) (r := cn (rval (rs.getD i z0))) (by rw [fillTo_length]; omega)
    rw [fillTo_set (fun j => cn (rval (rs.getD j z0))) i r] at hst
    have h1 := Try.k92_1 rs.length (pc rs) n _ ((n : Nat) : Int) ((i : Nat) : Int) _ (rs.getD i z0) (rval (rs.getD i z0)) (by simp; omega) (by omega) (by rw [Int.toNat_natCast]; exact hx) hs (by omega) (by rw [Int.toNat_natCast]; exact hst)
    rw [ei] at h1
    exact RunsW.loop h1 (ih (i + 1) (by omega))

theorem Try.run92_z (rs : List Rn) (hd : Runs Try.ir 62 [.sl rs.length (pc rs)] (.int .i64 (((topN (vals rs) rs.length : Nat) : Int) - 1))) (hz : ((IntKind.i64.wrap ((((topN (vals rs) rs.length : Nat) : Int) - 1) + 1)) == 0) = true) : Runs Try.ir 92 [.sl rs.length (pc rs)] (.fresh 2 0 []) :=
  Runs.script (ps := [Runs Try.ir 62 [.sl rs.length (pc rs)] (.int .i64 (((topN (vals rs) rs.length : Nat) : Int) - 1)), ((IntKind.i64.wrap ((((topN (vals rs) rs.length : Nat) : Int) - 1) + 1)) == 0) = true]) TWC_holds rfl 300 rfl [.r (.int .i64 (((topN (vals rs) rs.length : Nat) : Int) - 1)), .b true] (by kernel_rfl) ⟨hd, hz, trivial⟩
theorem Try.run92_p (rs ss : List Rn) (hd : Runs Try.ir 62 [.sl rs.length (pc rs)] (.int .i64 (((topN (vals rs) rs.length : Nat) : Int) - 1))) (hz : ((IntKind.i64.wrap ((((topN (vals rs) rs.length : Nat) : Int) - 1) + 1)) == 0) = false) (hmk : 0 ≤ IntKind.i64.wrap ((((topN (vals rs) rs.length : Nat) : Int) - 1) + 1) ∧ IntKind.i64.wrap ((((topN (vals rs) rs.length : Nat) : Int) - 1) + 1) ≤ 1048576)
    (hl : RunsW Try.ir (.loop Try.c92) (Try.s92 rs.length (pc rs) (Int.toNat (IntKind.i64.wrap ((((topN (vals rs) rs.length : Nat) : Int) - 1) + 1))) (replA [.bool false, .sl 0 []] (Int.toNat (IntKind.i64.wrap ((((topN (vals rs) rs.length : Nat) : Int) - 1) + 1)))) (((Int.toNat (IntKind.i64.wrap ((((topN (vals rs) rs.length : Nat) : Int) - 1) + 1))) : Nat) : Int) 0) (.exit 0) (Try.s92 rs.length (pc rs) (Int.toNat (IntKind.i64.wrap ((((topN (vals rs) rs.length : Nat) : Int) - 1) + 1))) (pc ss) (((Int.toNat (IntKind.i64.wrap ((((topN (vals rs) rs.length : Nat) : Int) - 1) + 1))) : Nat) : Int) (((Int.toNat (IntKind.i64.wrap ((((topN (vals rs) rs.length : Nat) : Int) - 1) + 1))) : Nat) : Int))) :
    Runs Try.ir 92 [.sl rs.length (pc rs)] (.fresh 2 (Int.toNat (IntKind.i64.wrap ((((topN (vals rs) rs.length : Nat) : Int) - 1) + 1))) (pc ss)) :=
  Runs.of_bodyW (fn := Try.i92) (s := (.val (.sl rs.length (pc rs)) :: (dds 1 (.own 2 (Int.toNat (IntKind.i64.wrap ((((topN (vals rs) rs.length : Nat) : Int) - 1) + 1))) (pc ss) :: (dds 11 (.val (.int .i64 (((Int.toNat (IntKind.i64.wrap ((((topN (vals rs) rs.length : Nat) : Int) - 1) + 1))) : Nat) : Int)) :: (.val (.int .i64 (((Int.toNat (IntKind.i64.wrap ((((topN (vals rs) rs.length : Nat) : Int) - 1) + 1))) : Nat) : Int)) :: (dds 12 [])))))))) (ex := .ret) rfl rfl
    (RunsW.seq (RunsW.script (t := (.val (.sl rs.length (pc rs)) :: (dds 1 (.own 2 0 [] :: (dds 25 []))))) (ex := .norm) (ps := []) TWC_holds 300 [] [0, 2] (by kernel_rfl) trivial)
    (RunsW.seq (RunsW.script (t := (.val (.sl rs.length (pc rs)) :: (dds 1 (.own 2 0 [] :: (.val (.int .i64 (IntKind.i64.wrap ((((topN (vals rs) rs.length : Nat) : Int) - 1) + 1))) :: (dds 2 (.val (.sl rs.length (pc rs)) :: (.val (.int .i64 (((topN (vals rs) rs.length : Nat) : Int) - 1)) :: (.val (.int .i64 (IntKind.i64.wrap ((((topN (vals rs) rs.length : Nat) : Int) - 1) + 1))) :: (dds 19 [])))))))))) (ex := .norm) (ps := [Runs Try.ir 62 [.sl rs.length (pc rs)] (.int .i64 (((topN (vals rs) rs.length : Nat) : Int) - 1))]) TWC_holds 300 [.r (.int .i64 (((topN (vals rs) rs.length : Nat) : Int) - 1))] [0, 2, 3, 6, 7, 8] (by kernel_rfl) ⟨hd, trivial⟩)
    (RunsW.seq (RunsW.script (t := (.val (.sl rs.length (pc rs)) :: (dds 1 (.own 2 0 [] :: (.val (.int .i64 (IntKind.i64.wrap ((((topN (vals rs) rs.length : Nat) : Int) - 1) + 1))) :: (dds 2 (.val (.sl rs.length (pc rs)) :: (.val (.int .i64 (((topN (vals rs) rs.length : Nat) : Int) - 1)) :: (.val (.int .i64 (IntKind.i64.wrap ((((topN (vals rs) rs.length : Nat) : Int) - 1) + 1))) :: (.val (.int .i64 (IntKind.i64.wrap ((((topN (vals rs) rs.length : Nat) : Int) - 1) + 1))) :: (.val (.bool ((IntKind.i64.wrap ((((topN (vals rs) rs.length : Nat) : Int) - 1) + 1)) == 0)) :: (dds 17 [])))))))))))) (ex := .norm) (ps := [((IntKind.i64.wrap ((((topN (vals rs) rs.length : Nat) : Int) - 1) + 1)) == 0) = false]) TWC_holds 300 [.b false] [0, 2, 3, 6, 7, 8, 9, 10] (by kernel_rfl) ⟨hz, trivial⟩)
    (RunsW.seq (RunsW.script (t := (.val (.sl rs.length (pc rs)) :: (dds 1 (.own 2 0 [] :: (.val (.int .i64 (IntKind.i64.wrap ((((topN (vals rs) rs.length : Nat) : Int) - 1) + 1))) :: (.own 2 (Int.toNat (IntKind.i64.wrap ((((topN (vals rs) rs.length : Nat) : Int) - 1) + 1))) (replA [.bool false, .sl 0 []] (Int.toNat (IntKind.i64.wrap ((((topN (vals rs) rs.length : Nat) : Int) - 1) + 1)))) :: (dds 1 (.val (.sl rs.length (pc rs)) :: (.val (.int .i64 (((topN (vals rs) rs.length : Nat) : Int) - 1)) :: (.val (.int .i64 (IntKind.i64.wrap ((((topN (vals rs) rs.length : Nat) : Int) - 1) + 1))) :: (.val (.int .i64 (IntKind.i64.wrap ((((topN (vals rs) rs.length : Nat) : Int) - 1) + 1))) :: (.val (.bool ((IntKind.i64.wrap ((((topN (vals rs) rs.length : Nat) : Int) - 1) + 1)) == 0)) :: (.val (.int .i64 (IntKind.i64.wrap ((((topN (vals rs) rs.length : Nat) : Int) - 1) + 1))) :: (dds 16 [])))))))))))))) (ex := .norm) (ps := [0 ≤ (IntKind.i64.wrap ((((topN (vals rs) rs.length : Nat) : Int) - 1) + 1)) ∧ (IntKind.i64.wrap ((((topN (vals rs) rs.length : Nat) : Int) - 1) + 1)) ≤ 1048576]) TWC_holds 300 [] [0, 2, 3, 4, 6, 7, 8, 9, 10, 11] (by kernel_rfl) ⟨hmk, trivial⟩)
    (RunsW.seq (RunsW.seq (RunsW.script (t := (.val (.sl rs.length (pc rs)) :: (dds 1 (.own 2 0 [] :: (dds 1 (.own 2 (Int.toNat (IntKind.i64.wrap ((((topN (vals rs) rs.length : Nat) : Int) - 1) + 1))) (replA [.bool false, .sl 0 []] (Int.toNat (IntKind.i64.wrap ((((topN (vals rs) rs.length : Nat) : Int) - 1) + 1)))) :: (dds 9 (.val (.int .i64 (((Int.toNat (IntKind.i64.wrap ((((topN (vals rs) rs.length : Nat) : Int) - 1) + 1))) : Nat) : Int)) :: (.val (.int .i64 0) :: (dds 12 [])))))))))) (ex := .norm) (ps := []) TWC_holds 300 [] [0, 2, 4, 14, 15] (by kernel_rfl) trivial)
    (RunsW.block hl))
    (RunsW.script (t := (.val (.sl rs.length (pc rs)) :: (dds 1 (.own 2 (Int.toNat (IntKind.i64.wrap ((((topN (vals rs) rs.length : Nat) : Int) - 1) + 1))) (pc ss) :: (dds 11 (.val (.int .i64 (((Int.toNat (IntKind.i64.wrap ((((topN (vals rs) rs.length : Nat) : Int) - 1) + 1))) : Nat) : Int)) :: (.val (.int .i64 (((Int.toNat (IntKind.i64.wrap ((((topN (vals rs) rs.length : Nat) : Int) - 1) + 1))) : Nat) : Int)) :: (dds 12 [])))))))) (ex := .ret) (ps := []) TWC_holds 300 [] [0, 2, 14, 15] (by kernel_rfl) trivial)))))) (by intro i e; cases e) rfl
theorem atrim_run {rs : List Rn} (hg : ∀ r ∈ rs, Good 1048576 r) (hN : rs.length ≤ 1048576) : Runs Try.ir 92 [.sl rs.length (pc rs)] (.fresh 2 (trimL (vals rs)).length (pk (trimL (vals rs)))) := by
  have hle := topN_le (vals rs) rs.length
  have hlen : (trimL (vals rs)).length = topN (vals rs) rs.length := by rw [trim_length, vals_length]
  have hd := degree_run hg hN
  have e1 : IntKind.i64.wrap ((((topN (vals rs) rs.length : Nat) : Int) - 1) + 1) = ((topN (vals rs) rs.length : Nat) : Int) := by rw [w64 (by omega) (by omega)]; omega
  have e2 : (Int.toNat (IntKind.i64.wrap ((((topN (vals rs) rs.length : Nat) : Int) - 1) + 1))) = topN (vals rs) rs.length := by rw [e1, Int.toNat_natCast]
  by_cases h0 : topN (vals rs) rs.length = 0
  · have h := Try.run92_z rs hd (by rw [e1, h0]; rfl)
    have : trimL (vals rs) = [] := List.eq_nil_of_length_eq_zero (by omega)
    rw [this]
    exact h
  · have hl := Try.loop92 rs hg hN (topN (vals rs) rs.length) hle (topN (vals rs) rs.length) 0 (by omega)
    rw [fillTo_zero, ← repl_pc] at hl
    have h := Try.run92_p rs _ hd (by rw [e1, beq_eq_false_iff_ne]; omega) (by rw [e1]; omega) (by rw [e2]; exact hl)
    rw [e2, fillTo_full] at h
    have e3 : (List.range (topN (vals rs) rs.length)).map (fun j => cn (rval (rs.getD j z0))) = (trimL (vals rs)).map cn := by
      rw [← range_cn, hlen]
      apply List.map_congr_left
      intro i _
      rw [getD_trim, vals_getD]
    rw [e3] at h
    rw [hlen]
    exact h

def Try.c127 : ICode := .seq (.region false [oB 11 .lss 10 9])
  (.seq (.cond (.t 11) (.skip)
  (.exit 0))
  (.seq (.block 1 (.seq (.region false [oM 12 10,
   oM 4 12])
  (.region false [o1 13 (.cpy 3),
   oM 14 4,
   oM 15 0,
   oM 16 4,
   o1 17 (.ixa 15 (.t 16) 2),
   o1 18 (.ld 17 17 2 false),
   oC 19 112 [18],
   o1 20 (.ixo 13 3 (.t 14) 2),
   oN (.st 20 3 2 (.t 19))])))
  (.region false [o1 21 (.bin .add (.t 10) (.c (.int .i64 1))),
   oM 10 21])))
def Try.s127 (N : Nat) (cs : List AV) (n : Nat) (os : List AV) (m : Int) (i : Int) : State := (.val (.sl N cs) :: (dds 1 (.own 2 0 [] :: (.own 2 n os :: (dds 5 (.val (.int .i64 m) :: (.val (.int .i64 i) :: (dds 12 []))))))))
theorem Try.k127_1 (N : Nat) (cs : List AV) (n : Nat) (os : List AV) (m : Int) (i : Int) (ds : List AV) (r : Rn) (v : Int) (c1 : (decide (i < m)) = true) (n1 : 0 ≤ i ∧ i < ((N : Nat) : Int)) (n2 : takeA (List.drop (Int.toNat i * 2) cs) 0 2 false = some (.agg [.bool r.1, .sl r.2.length (lm r.2)])) (n3 : Runs Try.ir 112 [.agg [.bool r.1, .sl r.2.length (lm r.2)]] (.agg [.bool (decide (v < 0)), .sl ((limbs (Int.natAbs v)).length) (lm (limbs (Int.natAbs v)))])) (n4 : 0 ≤ i ∧ i < ((n : Nat) : Int)) (n5 : layA os (Int.toNat i * 2) [.bool (decide (v < 0)), .sl ((limbs (Int.natAbs v)).length) (lm (limbs (Int.natAbs v)))] = some ds) : RunsW Try.ir Try.c127 (Try.s127 N cs n os m i) .norm (Try.s127 N cs n ds m (IntKind.i64.wrap (i + 1))) :=
  RunsW.script (ps := [(decide (i < m)) = true, 0 ≤ i ∧ i < ((N : Nat) : Int), takeA (List.drop (Int.toNat i * 2) cs) 0 2 false = some (.agg [.bool r.1, .sl r.2.length (lm r.2)]), Runs Try.ir 112 [.agg [.bool r.1, .sl r.2.length (lm r.2)]] (.agg [.bool (decide (v < 0)), .sl ((limbs (Int.natAbs v)).length) (lm (limbs (Int.natAbs v)))]), 0 ≤ i ∧ i < ((n : Nat) : Int), layA os (Int.toNat i * 2) [.bool (decide (v < 0)), .sl ((limbs (Int.natAbs v)).length) (lm (limbs (Int.natAbs v)))] = some ds]) TWC_holds 300 [.b true, .v (.agg [.bool r.1, .sl r.2.length (lm r.2)]), .r (.agg [.bool (decide (v < 0)), .sl ((limbs (Int.natAbs v)).length) (lm (limbs (Int.natAbs v)))]), .l ds] [0, 2, 3, 9, 10] (by kernel_rfl) ⟨c1, n1, n2, n3, n4, n5, trivial⟩
theorem Try.k127_2 (N : Nat) (cs : List AV) (n : Nat) (os : List AV) (m : Int) (i : Int) (c1 : (decide (i < m)) = false) : RunsW Try.ir Try.c127 (Try.s127 N cs n os m i) (.exit 0) (Try.s127 N cs n os m i) :=
  RunsW.script (ps := [(decide (i < m)) = false]) TWC_holds 300 [.b false] [0, 2, 3, 9, 10] (by kernel_rfl) ⟨c1, trivial⟩
theorem Try.loop127 (rs : List Rn) (hg : ∀ r ∈ rs, Good 1048576 r) (hN : rs.length ≤ 1048576) (n : Nat) (hn : n ≤ rs.length) : ∀ (r i : Nat), i + r = n →
    RunsW Try.ir (.loop Try.c127) (Try.s127 rs.length (pc rs) n (pc (fillTo (fun j => cn (-(rval (rs.getD j z0)))) i r)) ((n : Nat) : Int) ((i : Nat) : Int)) (.exit 0) (Try.s127 rs.length (pc rs) n (pc (fillTo (fun j => cn (-(rval (rs.getD j z0)))) n 0)) ((n : Nat) : Int) ((n : Nat) : Int)) := by
  intro r
  induction r with
  | zero =>
    intro i hi
    have hi' : i = n := by omega
    subst hi'
    exact RunsW.loop_out (Try.k127_2 rs.length (pc rs) i _ ((i : Nat) : Int) ((i : Nat) : Int) (by simp)) (by intro e; cases e)
  | succ r ih =>
    intro i hi
    have ei : IntKind.i64.wrap (((i : Nat) : Int) + 1) = ((i + 1 : Nat) : Int) := by rw [w64 (by omega) (by omega)]; omega
    have hx := take_pc (rs := rs) (i := i) (by omega)
    have gm := good_getD hg i
    have hs := wneg_run (neg := (rs.getD i z0).1) gm.1 gm.2
    have hst := lay_pc (rs := fillTo (fun j => cn (-(rval (rs.getD j z0)))) i (r + 1)) (i := i) (r := cn (-(rval (rs.getD i z0)))) (by rw [fillTo_length]; omega)
    rw [fillTo_set (fun j => cn (-(rval (rs.getD j z0)))) i r] at hst
    have h1 := Try.k127_1 rs.length (pc rs) n _ ((n : Nat) : Int) ((i : Nat) : Int) _ (rs.getD i z0) (-(rval (rs.getD i z0))) (by simp; omega) (by omega) (by rw [Int.toNat_natCast]; exact hx) hs (by omega) (by rw [Int.toNat_natCast]; exact hst)
    rw [ei] at h1
    exact RunsW.loop h1 (ih (i + 1) (by omega))

theorem Try.run127 (rs ss : List Rn) (hmk : 0 ≤ ((rs.length : Nat) : Int) ∧ ((rs.length : Nat) : Int) ≤ 1048576)
    (hl : RunsW Try.ir (.loop Try.c127) (Try.s127 rs.length (pc rs) (Int.toNat ((rs.length : Nat) : Int)) (replA [.bool false, .sl 0 []] (Int.toNat ((rs.length : Nat) : Int))) ((rs.length : Nat) : Int) 0) (.exit 0) (Try.s127 rs.length (pc rs) (Int.toNat ((rs.length : Nat) : Int)) (pc ss) ((rs.length : Nat) : Int) ((rs.length : Nat) : Int))) :
    Runs Try.ir 127 [.sl rs.length (pc rs)] (.fresh 2 (Int.toNat ((rs.length : Nat) : Int)) (pc ss)) :=
  Runs.of_bodyW (fn := Try.i127) (s := (.val (.sl rs.length (pc rs)) :: (dds 1 (.own 2 (Int.toNat ((rs.length : Nat) : Int)) (pc ss) :: (dds 6 (.val (.int .i64 ((rs.length : Nat) : Int)) :: (.val (.int .i64 ((rs.length : Nat) : Int)) :: (dds 12 [])))))))) (ex := .ret) rfl rfl
    (RunsW.seq (RunsW.script (t := (.val (.sl rs.length (pc rs)) :: (dds 1 (.own 2 0 [] :: (dds 20 []))))) (ex := .norm) (ps := []) TWC_holds 300 [] [0, 2] (by kernel_rfl) trivial)
    (RunsW.seq (RunsW.script (t := (.val (.sl rs.length (pc rs)) :: (dds 1 (.own 2 0 [] :: (.own 2 (Int.toNat ((rs.length : Nat) : Int)) (replA [.bool false, .sl 0 []] (Int.toNat ((rs.length : Nat) : Int))) :: (dds 1 (.val (.sl rs.length (pc rs)) :: (.val (.int .i64 ((rs.length : Nat) : Int)) :: (dds 16 []))))))))) (ex := .norm) (ps := [0 ≤ ((rs.length : Nat) : Int) ∧ ((rs.length : Nat) : Int) ≤ 1048576]) TWC_holds 300 [] [0, 2, 3, 5, 6] (by kernel_rfl) ⟨hmk, trivial⟩)
    (RunsW.seq (RunsW.seq (RunsW.script (t := (.val (.sl rs.length (pc rs)) :: (dds 1 (.own 2 0 [] :: (.own 2 (Int.toNat ((rs.length : Nat) : Int)) (replA [.bool false, .sl 0 []] (Int.toNat ((rs.length : Nat) : Int))) :: (dds 5 (.val (.int .i64 ((rs.length : Nat) : Int)) :: (.val (.int .i64 0) :: (dds 12 []))))))))) (ex := .norm) (ps := []) TWC_holds 300 [] [0, 2, 3, 9, 10] (by kernel_rfl) trivial)
    (RunsW.block hl))
    (RunsW.script (t := (.val (.sl rs.length (pc rs)) :: (dds 1 (.own 2 (Int.toNat ((rs.length : Nat) : Int)) (pc ss) :: (dds 6 (.val (.int .i64 ((rs.length : Nat) : Int)) :: (.val (.int .i64 ((rs.length : Nat) : Int)) :: (dds 12 [])))))))) (ex := .ret) (ps := []) TWC_holds 300 [] [0, 2, 9, 10] (by kernel_rfl) trivial)))) (by intro i e; cases e) rfl
theorem anegative_run {rs : List Rn} (hg : ∀ r ∈ rs, Good 1048576 r) (hN : rs.length ≤ 1048576) : Runs Try.ir 127 [.sl rs.length (pc rs)] (.fresh 2 rs.length (pk (pneg (vals rs)))) := by
  have hl := Try.loop127 rs hg hN rs.length (Nat.le_refl _) rs.length 0 (by omega)
  rw [fillTo_zero, ← repl_pc] at hl
  have h := Try.run127 rs _ (by omega) (by rw [Int.toNat_natCast]; exact hl)
  rw [Int.toNat_natCast, fillTo_full] at h
  have e3 : (List.range rs.length).map (fun j => cn (-(rval (rs.getD j z0)))) = (pneg (vals rs)).map cn := by
    have hq : (pneg (vals rs)).length = rs.length := by simp [pneg, vals]
    rw [← range_cn, hq]
    apply List.map_congr_left
    intro i _
    rw [getD_pneg, vals_getD]
  rw [e3] at h
  exact h

def TAA : Table := TWC
theorem TAA_holds : THolds Try.ir TAA := TWC_holds
end Go.Proofs.Ythnnfemologhfaa
