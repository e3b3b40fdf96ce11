/- Accounts: what sums and soundness are, and the law LedgerSums. -/
import Derived.Test.YtokngfogomhmdaaGreatLedA
import Derived.Test.YtokngfogomhmdaaGreatWords
namespace Go.Proofs.YtokngfogomhmdaaGreat
open Go.Ai

/-- What is booked in the first k ticks. -/
def bk (l : List E3) : Nat → Int
  | 0 => 0
  | k + 1 => IntKind.i64.wrap (bk l k + (l.getD k z3).2.2)
def sumL (l : List E3) : E3 := if l.length = 0 then (0, 0, 0) else ((l.getD 0 z3).1, (l.getD (l.length - 1) z3).2.1, bk l l.length)
/-- Whether tick k is not in order. -/
def bad (l : List E3) (k : Nat) : Bool := decide (IntKind.i64.wrap ((l.getD k z3).2.1 - (l.getD k z3).1) > (l.getD k z3).2.2) || (decide (0 < k) && (l.getD k z3).1 != (l.getD (k - 1) z3).2.1)
theorem up64 {k n : Nat} (h : k < n) (hn : n < 9223372036854775807) : IntKind.i64.wrap (((k : Nat) : Int) + 1) = ((k + 1 : Nat) : Int) := by rw [w64 (by omega) (by omega)]; omega
theorem dn64 {k : Nat} (h : 0 < k) (hn : k < 9223372036854775807) : IntKind.i64.wrap (((k : Nat) : Int) - 1) = ((k - 1 : Nat) : Int) := by rw [w64 (by omega) (by omega)]; omega

theorem Tryz.loop5 {l : List E3} (hl : l.length < 9223372036854775807) (b a : Int) : RunsW Tryz.ir (.loop Tryz.c5) (Tryz.s5 l b a 0 0) (.exit 0) (Tryz.s5 l b a (bk l l.length) ((l.length : Nat) : Int)) := by
  exact RunsW.up (fun k => Tryz.s5 l b a (bk l k) ((k : Nat) : Int)) l.length (by intro e; cases e) (fun k hk => by
    have h := Tryz.k5_1 l b a (bk l k) ((k : Nat) : Int) (by simpa using hk) ⟨by omega, by omega⟩
    rw [up64 hk hl] at h
    exact h) (Tryz.k5_2 l b a (bk l l.length) ((l.length : Nat) : Int) (by simp)) 0 (Nat.zero_le _)
theorem Tryz.sum5 {l : List E3} (hl : l.length < 9223372036854775807) : Runs Tryz.ir 5 [.sl l.length (en l)] (.agg (ecs (sumL l))) := by
  by_cases h0 : l.length = 0
  · have h := Tryz.run5_1 l (by simp [h0])
    unfold sumL
    rw [if_pos h0]
    exact h
  · have e := dn64 (k := l.length) (by omega) hl
    have h := Tryz.run5_2 l (bk l l.length) ((l.length : Nat) : Int) (by rw [beq_eq_false_iff_ne]; omega) ⟨by omega, by omega⟩ (by rw [e]; omega) (Tryz.loop5 hl _ _)
    rw [e] at h
    unfold sumL
    rw [if_neg h0]
    exact h

theorem Tryz.loop6 {l : List E3} (hl : l.length < 9223372036854775807) (b a : Int) : RunsW Tryz.ir (.loop Tryz.c6) (Tryz.s6 l b a 0 0) (.exit 0) (Tryz.s6 l b a (bk l l.length) ((l.length : Nat) : Int)) := by
  exact RunsW.up (fun k => Tryz.s6 l b a (bk l k) ((k : Nat) : Int)) l.length (by intro e; cases e) (fun k hk => by
    have h := Tryz.k6_1 l b a (bk l k) ((k : Nat) : Int) (by simpa using hk) ⟨by omega, by omega⟩
    rw [up64 hk hl] at h
    exact h) (Tryz.k6_2 l b a (bk l l.length) ((l.length : Nat) : Int) (by simp)) 0 (Nat.zero_le _)
theorem Tryz.sum6 {l : List E3} (hl : l.length < 9223372036854775807) : Runs Tryz.ir 6 [.sl l.length (en l)] (.agg (ecs (sumL l))) := by
  by_cases h0 : l.length = 0
  · have h := Tryz.run6_1 l (by simp [h0])
    unfold sumL
    rw [if_pos h0]
    exact h
  · have e := dn64 (k := l.length) (by omega) hl
    have h := Tryz.run6_2 l (bk l l.length) ((l.length : Nat) : Int) (by rw [beq_eq_false_iff_ne]; omega) ⟨by omega, by omega⟩ (by rw [e]; omega) (Tryz.loop6 hl _ _)
    rw [e] at h
    unfold sumL
    rw [if_neg h0]
    exact h

theorem Tryz.step7 {l : List E3} (hl : l.length < 9223372036854775807) {k : Nat} (hk : k < l.length) (hb : bad l k = false) : RunsW Tryz.ir Tryz.c7 (Tryz.s7 l ((k : Nat) : Int)) .norm (Tryz.s7 l ((k + 1 : Nat) : Int)) := by
  unfold bad at hb
  rw [Bool.or_eq_false_iff] at hb
  obtain ⟨h1, h2⟩ := hb
  by_cases h0 : 0 < k
  · have e := dn64 h0 (by omega)
    rw [decide_eq_true h0, Bool.true_and] at h2
    have h := Tryz.k7_3 l ((k : Nat) : Int) (by simpa using hk) h1 (by simpa using h0) (by rw [e]; exact h2) ⟨by omega, by omega⟩ (by rw [e]; omega)
    rw [up64 hk hl] at h
    exact h
  · have h := Tryz.k7_4 l ((k : Nat) : Int) (by simpa using hk) h1 (by simpa using h0) ⟨by omega, by omega⟩
    rw [up64 hk hl] at h
    exact h
theorem Tryz.stop7 {l : List E3} (hl : l.length < 9223372036854775807) {k : Nat} (hk : k < l.length) (hb : bad l k = true) : RunsW Tryz.ir Tryz.c7 (Tryz.s7 l ((k : Nat) : Int)) .ret (Tryz.s7 l ((k : Nat) : Int)) := by
  unfold bad at hb
  rw [Bool.or_eq_true] at hb
  cases h1 : decide (IntKind.i64.wrap ((l.getD k z3).2.1 - (l.getD k z3).1) > (l.getD k z3).2.2) with
  | true => exact Tryz.k7_1 l ((k : Nat) : Int) (by simpa using hk) h1 ⟨by omega, by omega⟩
  | false =>
    rw [h1] at hb
    rcases hb with hb | hb
    · cases hb
    rw [Bool.and_eq_true, decide_eq_true_eq] at hb
    have e := dn64 hb.1 (by omega)
    exact Tryz.k7_2 l ((k : Nat) : Int) (by simpa using hk) h1 (by simpa using hb.1) (by rw [e]; exact hb.2) ⟨by omega, by omega⟩ (by rw [e]; omega)
theorem Tryz.sound7 {l : List E3} (hl : l.length < 9223372036854775807) (d : Bool) (hd : (d = true ∧ ∀ k, k < l.length → bad l k = false) ∨ (d = false ∧ ∃ j, j < l.length ∧ bad l j = true ∧ ∀ t, t < j → bad l t = false)) : Runs Tryz.ir 7 [.sl l.length (en l)] (.bool d) := by
  rcases hd with ⟨rfl, h⟩ | ⟨rfl, j, h1, h2, h3⟩
  · exact Tryz.run7_y l ((l.length : Nat) : Int) (RunsW.up (fun k => Tryz.s7 l ((k : Nat) : Int)) l.length (by intro e; cases e) (fun k hk => Tryz.step7 hl hk (h k hk)) (Tryz.k7_5 l ((l.length : Nat) : Int) (by simp)) 0 (Nat.zero_le _))
  · exact Tryz.run7_n l ((j : Nat) : Int) (RunsW.upTo (fun k => Tryz.s7 l ((k : Nat) : Int)) j (by intro e; cases e) (Tryz.stop7 hl h1 h2) 0 (Nat.zero_le _) fun t _ ht => Tryz.step7 hl (by omega) (h3 t ht))

theorem Tryz.step8 {l : List E3} (hl : l.length < 9223372036854775807) {k : Nat} (hk : k < l.length) (hb : bad l k = false) : RunsW Tryz.ir Tryz.c8 (Tryz.s8 l ((k : Nat) : Int)) .norm (Tryz.s8 l ((k + 1 : Nat) : Int)) := by
  unfold bad at hb
  rw [Bool.or_eq_false_iff] at hb
  obtain ⟨h1, h2⟩ := hb
  by_cases h0 : 0 < k
  · have e := dn64 h0 (by omega)
    rw [decide_eq_true h0, Bool.true_and] at h2
    have h := Tryz.k8_3 l ((k : Nat) : Int) (by simpa using hk) h1 (by simpa using h0) (by rw [e]; exact h2) ⟨by omega, by omega⟩ (by rw [e]; omega)
    rw [up64 hk hl] at h
    exact h
  · have h := Tryz.k8_4 l ((k : Nat) : Int) (by simpa using hk) h1 (by simpa using h0) ⟨by omega, by omega⟩
    rw [up64 hk hl] at h
    exact h
theorem Tryz.stop8 {l : List E3} (hl : l.length < 9223372036854775807) {k : Nat} (hk : k < l.length) (hb : bad l k = true) : RunsW Tryz.ir Tryz.c8 (Tryz.s8 l ((k : Nat) : Int)) .ret (Tryz.s8 l ((k : Nat) : Int)) := by
  unfold bad at hb
  rw [Bool.or_eq_true] at hb
  cases h1 : decide (IntKind.i64.wrap ((l.getD k z3).2.1 - (l.getD k z3).1) > (l.getD k z3).2.2) with
  | true => exact Tryz.k8_1 l ((k : Nat) : Int) (by simpa using hk) h1 ⟨by omega, by omega⟩
  | false =>
    rw [h1] at hb
    rcases hb with hb | hb
    · cases hb
    rw [Bool.and_eq_true, decide_eq_true_eq] at hb
    have e := dn64 hb.1 (by omega)
    exact Tryz.k8_2 l ((k : Nat) : Int) (by simpa using hk) h1 (by simpa using hb.1) (by rw [e]; exact hb.2) ⟨by omega, by omega⟩ (by rw [e]; omega)
theorem Tryz.sound8 {l : List E3} (hl : l.length < 9223372036854775807) (d : Bool) (hd : (d = true ∧ ∀ k, k < l.length → bad l k = false) ∨ (d = false ∧ ∃ j, j < l.length ∧ bad l j = true ∧ ∀ t, t < j → bad l t = false)) : Runs Tryz.ir 8 [.sl l.length (en l)] (.bool d) := by
  rcases hd with ⟨rfl, h⟩ | ⟨rfl, j, h1, h2, h3⟩
  · exact Tryz.run8_y l ((l.length : Nat) : Int) (RunsW.up (fun k => Tryz.s8 l ((k : Nat) : Int)) l.length (by intro e; cases e) (fun k hk => Tryz.step8 hl hk (h k hk)) (Tryz.k8_5 l ((l.length : Nat) : Int) (by simp)) 0 (Nat.zero_le _))
  · exact Tryz.run8_n l ((j : Nat) : Int) (RunsW.upTo (fun k => Tryz.s8 l ((k : Nat) : Int)) j (by intro e; cases e) (Tryz.stop8 hl h1 h2) 0 (Nat.zero_le _) fun t _ ht => Tryz.step8 hl (by omega) (h3 t ht))

/-- Whether entry k is out of the law's bounds. -/
def far (l : List E3) (k : Nat) : Bool := decide (((l.getD (Int.toNat ((k : Nat) : Int)) z3).1) < (-1125899906842624)) || (decide (((l.getD (Int.toNat ((k : Nat) : Int)) z3).1) > 1125899906842624) || (decide (((l.getD (Int.toNat ((k : Nat) : Int)) z3).2.1) < (-1125899906842624)) || (decide (((l.getD (Int.toNat ((k : Nat) : Int)) z3).2.1) > 1125899906842624) || (decide (((l.getD (Int.toNat ((k : Nat) : Int)) z3).2.2) < (-1125899906842624)) || (decide (((l.getD (Int.toNat ((k : Nat) : Int)) z3).2.2) > 1125899906842624) || (decide (((k : Nat) : Int) > 1000)))))))
theorem Tryz.halt3 (aw : Runs Tryz.ir 4 [] (.bool true)) {l : List E3} {k : Nat} (hk : k < l.length) (hb : far l k = true) (n : Nat) (zs : List AV) : RunsW Tryz.ir Tryz.c3 (Tryz.s3 l false n zs ((k : Nat) : Int)) .ret (Tryz.s3 l true n zs ((k : Nat) : Int)) := by
  unfold far at hb
  have c1 : decide (((k : Nat) : Int) < ((l.length : Nat) : Int)) = true := by simpa using hk
  have n1 : 0 ≤ ((k : Nat) : Int) ∧ ((k : Nat) : Int) < ((l.length : Nat) : Int) := ⟨by omega, by omega⟩
  cases c2 : decide (((l.getD (Int.toNat ((k : Nat) : Int)) z3).1) < (-1125899906842624)) with
  | true => exact Tryz.k3_1 l false n zs ((k : Nat) : Int) c1 c2 n1 aw
  | false =>
    rw [c2, Bool.false_or] at hb
    cases c3 : decide (((l.getD (Int.toNat ((k : Nat) : Int)) z3).1) > 1125899906842624) with
    | true => exact Tryz.k3_2 l false n zs ((k : Nat) : Int) c1 c2 c3 n1 aw
    | false =>
      rw [c3, Bool.false_or] at hb
      cases c4 : decide (((l.getD (Int.toNat ((k : Nat) : Int)) z3).2.1) < (-1125899906842624)) with
      | true => exact Tryz.k3_3 l false n zs ((k : Nat) : Int) c1 c2 c3 c4 n1 aw
      | false =>
        rw [c4, Bool.false_or] at hb
        cases c5 : decide (((l.getD (Int.toNat ((k : Nat) : Int)) z3).2.1) > 1125899906842624) with
        | true => exact Tryz.k3_4 l false n zs ((k : Nat) : Int) c1 c2 c3 c4 c5 n1 aw
        | false =>
          rw [c5, Bool.false_or] at hb
          cases c6 : decide (((l.getD (Int.toNat ((k : Nat) : Int)) z3).2.2) < (-1125899906842624)) with
          | true => exact Tryz.k3_5 l false n zs ((k : Nat) : Int) c1 c2 c3 c4 c5 c6 n1 aw
          | false =>
            rw [c6, Bool.false_or] at hb
            cases c7 : decide (((l.getD (Int.toNat ((k : Nat) : Int)) z3).2.2) > 1125899906842624) with
            | true => exact Tryz.k3_6 l false n zs ((k : Nat) : Int) c1 c2 c3 c4 c5 c6 c7 n1 aw
            | false =>
              rw [c7, Bool.false_or] at hb
              have c8 := hb
              exact Tryz.k3_7 l false n zs ((k : Nat) : Int) c1 c2 c3 c4 c5 c6 c7 c8 n1 aw

theorem en_take {l : List E3} {k : Nat} (hk : k < l.length) : en (l.take (k + 1)) = en (l.take k) ++ ecs (l.getD k z3) := by
  rw [List.take_succ_eq_append_getElem hk, en_append, List.getD_eq_getElem?_getD, List.getElem?_eq_getElem hk]
  rfl
theorem Tryz.next3 {l : List E3} {k : Nat} (hk : k < l.length) (hb : far l k = false) : RunsW Tryz.ir Tryz.c3 (Tryz.s3 l false k (en (l.take k)) ((k : Nat) : Int)) .norm (Tryz.s3 l false (k + 1) (en (l.take (k + 1))) ((k + 1 : Nat) : Int)) := by
  unfold far at hb
  simp only [Bool.or_eq_false_iff] at hb
  obtain ⟨c2, c3, c4, c5, c6, c7, c8⟩ := hb
  have h8 : k ≤ 1000 := by have := of_decide_eq_false c8; omega
  have h := Tryz.k3_8 l false k (en (l.take k)) ((k : Nat) : Int) (by simpa using hk) c2 c3 c4 c5 c6 c7 c8 ⟨by omega, by omega⟩ (by omega)
  rw [w64 (by omega) (by omega)] at h
  rw [en_take hk]
  exact h
theorem ledgerSums_run (aw : Runs Tryz.ir 4 [] (.bool true)) {l : List E3} (hl : l.length < 9223372036854775807) : Runs Tryz.ir 3 [.sl l.length (en l)] (.bool true) := by
  rcases first_from (far l) l.length l.length 0 (by omega) with h | ⟨j, h0, h1, h2, h3⟩
  · have hloop : RunsW Tryz.ir (.loop Tryz.c3) (Tryz.s3 l false 0 [] 0) (.exit 0) (Tryz.s3 l false l.length (en l) ((l.length : Nat) : Int)) := by
      have := RunsW.up (prog := Tryz.ir) (c := Tryz.c3) (ex := .exit 0) (fun k => Tryz.s3 l false k (en (l.take k)) ((k : Nat) : Int)) l.length (by intro e; cases e) (fun k hk => Tryz.next3 hk (h k (Nat.zero_le _) hk))
        (Tryz.k3_9 l false l.length (en (l.take l.length)) ((l.length : Nat) : Int) (by simp)) 0 (Nat.zero_le _)
      rw [List.take_length] at this
      exact this
    have hd : ∃ d : Bool, (d = true ∧ ∀ k, k < l.length → bad l k = false) ∨ (d = false ∧ ∃ j, j < l.length ∧ bad l j = true ∧ ∀ t, t < j → bad l t = false) := by
      rcases first_from (bad l) l.length l.length 0 (by omega) with h | ⟨j, h0, h1, h2, h3⟩
      · exact ⟨true, .inl ⟨rfl, fun k hk => h k (Nat.zero_le _) hk⟩⟩
      · exact ⟨false, .inr ⟨rfl, j, h1, h2, fun t ht => h3 t (Nat.zero_le _) ht⟩⟩
    obtain ⟨d, hd⟩ := hd
    have := Tryz.run3_y l l ((l.length : Nat) : Int) (sumL l) d (by simp) (by simp) (by simp) aw hloop (Tryz.sum5 hl) (Tryz.sum6 hl) (Tryz.sound7 hl d hd) (Tryz.sound8 hl d hd)
    rwa [show ((sumL l).2.2 == (sumL l).2.2) = true by simp] at this
  · exact Tryz.run3_n l j (en (l.take j)) ((j : Nat) : Int) aw (RunsW.upTo (fun k => Tryz.s3 l false k (en (l.take k)) ((k : Nat) : Int)) j (by intro e; cases e) (Tryz.halt3 aw h1 h2 j (en (l.take j))) 0 (Nat.zero_le _) fun t _ ht => Tryz.next3 (by omega) (h3 t (Nat.zero_le _) ht))
end Go.Proofs.YtokngfogomhmdaaGreat
