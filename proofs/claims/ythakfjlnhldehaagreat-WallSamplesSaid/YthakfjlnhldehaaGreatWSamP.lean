/- WallSamples: the conditions at the beginning and at the end are the places. -/
import Derived.Test.YthakfjlnhldehaaGreatWSam
namespace Go.Proofs.YthakfjlnhldehaaGreat
open Go.Ai


theorem peval1 (c x : Int) : peval [c] x = c := by simp [peval]
def MildL (l : PPP) : Prop := (∀ ps ∈ l, ps.length ≤ 1048576 ∧ ∀ p ∈ ps, Mild p) ∧ l.length ≤ 1048576
theorem disc_at {p1 p2 v1 v2 h1 h2 z1 z2 R : Int} (a : In 8388608 p1 p2) (b : In 262144 v1 v2) (c : In 4096 h1 h2) (d : In 1048576 z1 z2) (hR : 1 ≤ R ∧ R ≤ 524288) :
    ∃ dl : PPP, MildL dl ∧ Runs Tryz.ir 20 [.agg [.int .i64 p1, .int .i64 p2, .int .i64 v1, .int .i64 v2, .int .i64 h1, .int .i64 h2], .agg [.int .i64 z1, .int .i64 z2], .int .i64 R] (.fresh 1 dl.length (ppp dl)) ∧
      ∀ x, atB dl (16 * x) = decide ((peval [p1, v1, h1] x - z1) * (peval [p1, v1, h1] x - z1) + (peval [p2, v2, h2] x - z2) * (peval [p2, v2, h2] x - z2) < R * R) := by
  obtain ⟨ws, i1, _, r⟩ := Disc_P a b c d hR
  refine ⟨[[ws]], ⟨fun ps hps => ?_, by simp⟩, r, fun x => ?_⟩
  · rw [List.mem_singleton.1 hps]
    refine ⟨by simp, fun p hp => ?_⟩
    rw [List.mem_singleton.1 hp]
    exact i1.mild (by decide) (by decide)
  · simp only [atB, List.any_cons, List.any_nil, List.all_cons, List.all_nil, Bool.and_true, Bool.or_false, posAt_P i1, peval1]
    rw [decide_eq_decide]
    omega
theorem cap_at {p1 p2 v1 v2 h1 h2 a1 a2 b1 b2 R : Int} (a : In 8388608 p1 p2) (b : In 262144 v1 v2) (c : In 4096 h1 h2) (ha : In 1048576 a1 a2) (hb : In 1048576 b1 b2) (hR : 1 ≤ R ∧ R ≤ 524288) :
    ∃ dl : PPP, MildL dl ∧ Runs Tryz.ir 19 [.agg [.int .i64 p1, .int .i64 p2, .int .i64 v1, .int .i64 v2, .int .i64 h1, .int .i64 h2], .agg [.int .i64 a1, .int .i64 a2], .agg [.int .i64 b1, .int .i64 b2], .int .i64 R] (.fresh 1 dl.length (ppp dl)) ∧
      ∀ x, atB dl (16 * x) = decide (capP (peval [p1, v1, h1] x - a1) (peval [p2, v2, h2] x - a2) (b1 - a1) (b2 - a2) R) := by
  obtain ⟨ds, i1, r1, r2⟩ := Disc_P a b c ha hR
  by_cases hab : a1 = b1 ∧ a2 = b2
  · obtain ⟨rfl, rfl⟩ := hab
    refine ⟨[[ds]], ⟨fun ps hps => ?_, by simp⟩, Tryz.run19_1 p1 p2 v1 v2 h1 h2 a1 a2 a1 a2 R ds (by simp) r2 (within_run ha), fun x => ?_⟩
    · rw [List.mem_singleton.1 hps]
      refine ⟨by simp, fun p hp => ?_⟩
      rw [List.mem_singleton.1 hp]
      exact i1.mild (by decide) (by decide)
    · simp only [atB, List.any_cons, List.any_nil, List.all_cons, List.all_nil, Bool.and_true, Bool.or_false, posAt_P i1, peval1]
      rw [decide_eq_decide]
      unfold capP
      simp only [Int.sub_self, Int.sub_zero, Int.mul_zero, Int.add_zero, Int.lt_irrefl, false_and, or_false, or_self]
      omega
  · obtain ⟨es, i2, r3, _⟩ := Disc_P a b c hb hR
    obtain ⟨xs, ys, i3, i4, r4⟩ := relative_P a b c ha
    have hd : In 2097152 (b1 - a1) (b2 - a2) := hb.sub ha (by decide)
    have hsub : Runs Tryz.ir 28 [.agg [.int .i64 b1, .int .i64 b2], .agg [.int .i64 a1, .int .i64 a2]] (.agg [.int .i64 (b1 - a1), .int .i64 (b2 - a2)]) := by
      have h := TWall_holds 28 [.agg [.int .i64 b1, .int .i64 b2], .agg [.int .i64 a1, .int .i64 a2]] (.agg [.int .i64 (subV b1 b2 a1 a2).1, .int .i64 (subV b1 b2 a1 a2).2]) _ rfl trivial
      rwa [subV_eq (hb.mono (by decide)) (ha.mono (by decide))] at h
    obtain ⟨d1, ed1⟩ : ∃ d1, d1 = b1 - a1 := ⟨_, rfl⟩
    obtain ⟨d2, ed2⟩ : ∃ d2, d2 = b2 - a2 := ⟨_, rfl⟩
    rw [← ed1, ← ed2] at hd hsub
    rw [← ed1, ← ed2]
    have hdot : Runs Tryz.ir 24 [.agg [.int .i64 d1, .int .i64 d2], .agg [.int .i64 d1, .int .i64 d2]] (.int .i64 (d1 * d1 + d2 * d2)) := by
      have h := TWall_holds 24 [.agg [.int .i64 d1, .int .i64 d2], .agg [.int .i64 d1, .int .i64 d2]] (.int .i64 (dotI d1 d2 d1 d2)) _ rfl trivial
      rwa [dotI_eq (hd.mono (by decide)) (hd.mono (by decide))] at h
    unfold In at hd
    have hRR := sq_le (x := R) (n := 524288) (by omega)
    have hRn := sq_nn R
    have m3 := sq_le (x := d1) (n := 2097152) (by omega)
    have m4 := sq_le (x := d2) (n := 2097152) (by omega)
    have n3 := sq_nn d1
    have n4 := sq_nn d2
    have w : IntKind.i64.wrap (R * R) = R * R := w64 (by omega) (by omega)
    have wn : IntKind.i64.wrap (0 - d2) = -d2 := by rw [w64 (by omega) (by omega)]; omega
    obtain ⟨al, k1, s1⟩ := linear_P (a := d1) (b := d2) (by omega) (by omega) i3 i4
    obtain ⟨ac, k2, s2⟩ := linear_P (a := d1) (b := -d2) (by omega) (by omega) i4 i3
    obtain ⟨ri, k3, s3⟩ := ints1_P (a := R * R) (by omega)
    obtain ⟨di, k4, s4⟩ := ints1_P (a := d1 * d1 + d2 * d2) (by omega)
    obtain ⟨lt, k5, s5⟩ := times_P k3 k4 (by decide) (by decide)
    obtain ⟨m1, k6, s6⟩ := minus_P k4 k1 (by decide) (by decide)
    obtain ⟨sq, k7, s7⟩ := times_P k2 k2 (by decide) (by decide)
    obtain ⟨m2, k8, s8⟩ := minus_P k5 k7 (by decide) (by decide)
    refine ⟨[[ds], [es], [al, m1, m2]], ⟨fun ps hps => ?_, by simp⟩, ?_, fun x => ?_⟩
    · simp only [List.mem_cons, List.not_mem_nil, or_false] at hps
      rcases hps with rfl | rfl | rfl
      · refine ⟨by simp, fun p hp => ?_⟩
        rw [List.mem_singleton.1 hp]; exact i1.mild (by decide) (by decide)
      · refine ⟨by simp, fun p hp => ?_⟩
        rw [List.mem_singleton.1 hp]; exact i2.mild (by decide) (by decide)
      · refine ⟨by simp, fun p hp => ?_⟩
        simp only [List.mem_cons, List.not_mem_nil, or_false] at hp
        rcases hp with rfl | rfl | rfl
        · exact k1.mild (by decide) (by decide)
        · exact k6.mild (by decide) (by decide)
        · exact k8.mild (by decide) (by decide)
    · exact Tryz.run19_2 p1 p2 v1 v2 h1 h2 a1 a2 b1 b2 d1 d2 (d1 * d1 + d2 * d2) R ds es xs ys al ac di ri lt sq m1 m2 (by
        rw [Bool.and_eq_false_iff]
        by_cases g : a1 = b1
        · right; simp; omega
        · left; simpa using g) r2 (within_run hb) hsub r4 s1 (by rw [wn]; exact s2) (by rw [w]; exact s3) hdot s4 s5 s6 s7 s8 r3
    · simp only [atB, List.any_cons, List.any_nil, List.all_cons, List.all_nil, Bool.and_true, Bool.or_false, posAt_P i1, posAt_P i2, posAt_P k1, posAt_P k6, posAt_P k8, peval1]
      rw [Bool.eq_iff_iff]
      simp only [Bool.or_eq_true, Bool.and_eq_true, decide_eq_true_eq]
      unfold capP
      have q1 : peval [p1, v1, h1] x - b1 = peval [p1, v1, h1] x - a1 - d1 := by omega
      have q2 : peval [p2, v2, h2] x - b2 = peval [p2, v2, h2] x - a2 - d2 := by omega
      rw [q1, q2]
      generalize peval [p1, v1, h1] x - a1 = X
      generalize peval [p2, v2, h2] x - a2 = Y
      have q3 : d1 * X + d2 * Y = X * d1 + Y * d2 := by grind
      have q4 : d1 * Y + -d2 * X = d1 * Y - d2 * X := by grind
      rw [q3, q4]
      omega


theorem samples_main {p1 p2 v1 v2 h1 h2 a1 a2 b1 b2 R : Int} {n : Nat} {cs : List AV} (h : decide (((n : Nat) : Int) < 2) = false) :
    Runs Tryz.ir 4 [.agg [.int .i64 p1, .int .i64 p2, .int .i64 v1, .int .i64 v2, .int .i64 h1, .int .i64 h2], .sl n (.int .i64 a1 :: .int .i64 a2 :: .int .i64 b1 :: .int .i64 b2 :: cs), .int .i64 R] (.bool true) := by
  have hn : ¬ ((n : Nat) : Int) < 2 := by simpa using h
  have haw := Tryz.run7
  have hva := Tryz.run16 p1 p2 v1 v2 h1 h2
  have hna := Tryz.run17 a1 a2
  have hnb := Tryz.run17 b1 b2
  have hnp := Tryz.run17 p1 p2
  cases cva : valid10 p1 p2 v1 v2 h1 h2 with
  | false =>
    rw [cva] at hva
    exact Tryz.run4_m_8 p1 p2 v1 v2 h1 h2 a1 a2 b1 b2 R n cs false h rfl haw hva
  | true =>
    obtain ⟨a, b, c⟩ := valid10_yes cva
    rw [cva] at hva
    cases c1 : decide (R < 1) with
    | true => exact Tryz.run4_m_1 p1 p2 v1 v2 h1 h2 a1 a2 b1 b2 R n cs true h rfl c1 haw hva
    | false =>
    cases c2 : decide (R > 524288) with
    | true => exact Tryz.run4_m_2 p1 p2 v1 v2 h1 h2 a1 a2 b1 b2 R n cs true h rfl c1 c2 haw hva
    | false =>
    have hR : 1 ≤ R ∧ R ≤ 524288 := by simp at c1 c2; omega
    cases cna : near11 a1 a2 with
    | false =>
      rw [cna] at hna
      exact Tryz.run4_m_7 p1 p2 v1 v2 h1 h2 a1 a2 b1 b2 R n cs true false h rfl c1 c2 rfl (by omega) haw hva hna
    | true =>
    cases cnb : near11 b1 b2 with
    | false =>
      rw [cna] at hna
      rw [cnb] at hnb
      exact Tryz.run4_m_6 p1 p2 v1 v2 h1 h2 a1 a2 b1 b2 R n cs true true false h rfl c1 c2 rfl rfl (by omega) (by omega) haw hva hna hnb
    | true =>
    cases cnp : near11 p1 p2 with
    | false =>
      rw [cna] at hna
      rw [cnb] at hnb
      rw [cnp] at hnp
      exact Tryz.run4_m_5 p1 p2 v1 v2 h1 h2 a1 a2 b1 b2 R n cs true true true false h rfl c1 c2 rfl rfl rfl (by omega) (by omega) haw hva hna hnb hnp
    | true =>
    rw [cna] at hna
    rw [cnb] at hnb
    rw [cnp] at hnp
    have ia := near11_yes cna
    have ib := near11_yes cnb
    have ip := near11_yes cnp
    obtain ⟨cl, mc, rc, ec⟩ := cap_at a b c ia ib hR
    obtain ⟨dl, md, rd, ed⟩ := disc_at a b c ib hR
    have hend := Tryz.run18 p1 p2 v1 v2 h1 h2 hva
    have w1 : IntKind.i64.wrap (IntKind.i64.wrap (p1 + v1) + h1) = p1 + v1 + h1 := by
      unfold In at a b c
      rw [w64 (n := p1 + v1) (by omega) (by omega), w64 (by omega) (by omega)]
    have w2 : IntKind.i64.wrap (IntKind.i64.wrap (p2 + v2) + h2) = p2 + v2 + h2 := by
      unfold In at a b c
      rw [w64 (n := p2 + v2) (by omega) (by omega), w64 (by omega) (by omega)]
    rw [w1, w2] at hend
    have A0 := at_run (l := cl) (j := 0) (by omega) mc.1 mc.2
    have A1 := at_run (l := cl) (j := 16) (by omega) mc.1 mc.2
    have B0 := at_run (l := dl) (j := 0) (by omega) md.1 md.2
    have B1 := at_run (l := dl) (j := 16) (by omega) md.1 md.2
    have z1 : peval [p1, v1, h1] 0 = p1 := by simp [peval]
    have z2 : peval [p2, v2, h2] 0 = p2 := by simp [peval]
    have o1 : peval [p1, v1, h1] 1 = p1 + v1 + h1 := by simp [peval]; omega
    have o2 : peval [p2, v2, h2] 1 = p2 + v2 + h2 := by simp [peval]; omega
    have ec0 := ec 0
    have ec1 := ec 1
    have ed0 := ed 0
    have ed1 := ed 1
    rw [z1, z2, Int.mul_zero] at ec0 ed0
    rw [o1, o2, Int.mul_one] at ec1 ed1
    rw [ec0] at A0
    rw [ec1] at A1
    rw [ed0] at B0
    rw [ed1] at B1
    have C0 := Tryz.run10 p1 p2 a1 a2 b1 b2 R
    have D0 := Tryz.run8 p1 p2 b1 b2 R
    rw [inCap_eq (ip.mono (by decide)) ia ib hR] at C0
    rw [inDisc_eq (ip.mono (by decide)) ib hR] at D0
    have hne := Tryz.run17 (p1 + v1 + h1) (p2 + v2 + h2)
    cases cne : near11 (p1 + v1 + h1) (p2 + v2 + h2) with
    | false =>
      rw [cne] at hne
      have k := Tryz.run4_m_4 p1 p2 v1 v2 h1 h2 a1 a2 b1 b2 _ _ _ _ R n cs true true true true false _ _ cl dl h (by simp) rfl c1 c2 rfl rfl rfl rfl (by omega) (by omega) haw hva hna hnb hnp hend rc rd A0 C0 B0 D0 hne
      rw [beq_self_eq_true] at k
      exact k
    | true =>
      have ie := near11_yes cne
      rw [cne] at hne
      have C1 := Tryz.run10 (p1 + v1 + h1) (p2 + v2 + h2) a1 a2 b1 b2 R
      have D1 := Tryz.run8 (p1 + v1 + h1) (p2 + v2 + h2) b1 b2 R
      rw [inCap_eq (ie.mono (by decide)) ia ib hR] at C1
      rw [inDisc_eq (ie.mono (by decide)) ib hR] at D1
      have k := Tryz.run4_m_3 p1 p2 v1 v2 h1 h2 a1 a2 b1 b2 _ _ _ _ R n cs true true true true true _ _ _ _ cl dl h (by simp) (by simp) (by simp) rfl c1 c2 rfl rfl rfl rfl (by omega) (by omega) haw hva hna hnb hnp hend rc rd A0 C0 B0 D0 hne A1 C1 B1 D1
      rw [beq_self_eq_true] at k
      exact k
theorem samples_run (p1 p2 v1 v2 h1 h2 : Int) (l : AV) (hl : VecsAV .i64 l) (R : Int) : Runs Tryz.ir 4 [.agg [.int .i64 p1, .int .i64 p2, .int .i64 v1, .int .i64 v2, .int .i64 h1, .int .i64 h2], l, .int .i64 R] (.bool true) := by
  rcases vecs_two hl with ⟨n, cs, rfl, h⟩ | ⟨n, a1, a2, b1, b2, cs, rfl, h⟩
  · exact Tryz.run4_s p1 p2 v1 v2 h1 h2 R n cs h Tryz.run7
  · exact samples_main h

def TWP : Table := TWS
theorem TWP_holds : THolds Tryz.ir TWP := TWS_holds
end Go.Proofs.YthakfjlnhldehaaGreat
