/- The statement PolySigns. -/
import Derived.Test.YthnnfemologhfaaSgnB
import Derived.Test.YthnnfemologhfaaAwab
namespace Go.Proofs.Ythnnfemologhfaa
open Go.Ai
set_option maxRecDepth 100000

def Try.c14 : ICode := .seq (.seq (.region false [oM 7 3,
   oM 8 0,
   o1 9 (.len (.t 8)),
   oB 10 .lss 7 9])
  (.cond (.t 10) (.skip)
  (.exit 0)))
  (.seq (.block 1 (.seq (.region false [oM 13 0,
   oM 14 3,
   o1 15 (.ixa 13 (.t 14) 2),
   o1 16 (.adr 15 20 1),
   o1 17 (.ld 16 16 1 true),
   o1 18 (.len (.t 17)),
   o1 19 (.bin .gtr (.t 18) (.c (.int .i64 6)))])
  (.cond (.t 19) (.seq (.region false [o1 2 (.mov (.c (.bool false)))])
  (.ret))
  (.skip))))
  (.region false [oM 11 3,
   o1 12 (.bin .add (.t 11) (.c (.int .i64 1))),
   oM 3 12]))
def Try.s14 (o : Bool) (rs : List Rn) (i : Int) : State := (.val (.sl rs.length (pc rs)) :: (dds 1 (.val (.bool o) :: (.val (.int .i64 i) :: (dds 16 [])))))
theorem Try.k14_1 (o : Bool) (rs : List Rn) (i : Int)  (c1 : (decide (i < ((rs.length : Nat) : Int))) = true)
    (c2 : (decide ((((rs.getD (Int.toNat i) z0).2.length : Nat) : Int) > 6)) = true)
    (n1 : 0 ≤ i ∧ i < ((rs.length : Nat) : Int)) : RunsW Try.ir Try.c14 (Try.s14 o rs i) .ret (Try.s14 false rs i) :=
  (RunsW.script (t := (.val (.sl rs.length (pc rs)) :: (dds 1 (.val (.bool false) :: (.val (.int .i64 i) :: (dds 16 [])))))) (ex := .ret) (ps := [(decide (i < ((rs.length : Nat) : Int))) = true, 0 ≤ i ∧ i < ((rs.length : Nat) : Int), takeA (List.drop 1 (List.drop (Int.toNat i * 2) (pc rs))) 0 1 true = some (.sl ((rs.getD (Int.toNat i) z0).2.length) (lm (rs.getD (Int.toNat i) z0).2)), (decide ((((rs.getD (Int.toNat i) z0).2.length : Nat) : Int) > 6)) = true]) TGB_holds 400 [.b true, .v (.sl ((rs.getD (Int.toNat i) z0).2.length) (lm (rs.getD (Int.toNat i) z0).2)), .b true] [0, 2, 3] (by kernel_rfl) ⟨c1, n1, (take_pcL n1), c2, trivial⟩)

theorem Try.k14_2 (o : Bool) (rs : List Rn) (i : Int)  (c1 : (decide (i < ((rs.length : Nat) : Int))) = true)
    (c2 : (decide ((((rs.getD (Int.toNat i) z0).2.length : Nat) : Int) > 6)) = false)
    (n1 : 0 ≤ i ∧ i < ((rs.length : Nat) : Int)) : RunsW Try.ir Try.c14 (Try.s14 o rs i) .norm (Try.s14 o rs (IntKind.i64.wrap (i + 1))) :=
  (RunsW.script (t := (.val (.sl rs.length (pc rs)) :: (dds 1 (.val (.bool o) :: (.val (.int .i64 (IntKind.i64.wrap (i + 1))) :: (dds 16 [])))))) (ex := .norm) (ps := [(decide (i < ((rs.length : Nat) : Int))) = true, 0 ≤ i ∧ i < ((rs.length : Nat) : Int), takeA (List.drop 1 (List.drop (Int.toNat i * 2) (pc rs))) 0 1 true = some (.sl ((rs.getD (Int.toNat i) z0).2.length) (lm (rs.getD (Int.toNat i) z0).2)), (decide ((((rs.getD (Int.toNat i) z0).2.length : Nat) : Int) > 6)) = false]) TGB_holds 400 [.b true, .v (.sl ((rs.getD (Int.toNat i) z0).2.length) (lm (rs.getD (Int.toNat i) z0).2)), .b false] [0, 2, 3] (by kernel_rfl) ⟨c1, n1, (take_pcL n1), c2, trivial⟩)

theorem Try.k14_3 (o : Bool) (rs : List Rn) (i : Int)  (c1 : (decide (i < ((rs.length : Nat) : Int))) = false) : RunsW Try.ir Try.c14 (Try.s14 o rs i) (.exit 0) (Try.s14 o rs i) :=
  (RunsW.script (t := (.val (.sl rs.length (pc rs)) :: (dds 1 (.val (.bool o) :: (.val (.int .i64 i) :: (dds 16 [])))))) (ex := (.exit 0)) (ps := [(decide (i < ((rs.length : Nat) : Int))) = false]) TGB_holds 400 [.b false] [0, 2, 3] (by kernel_rfl) ⟨c1, trivial⟩)

theorem Try.run14_n_1 (rs : List Rn) (c1 : (decide (((rs.length : Nat) : Int) > 10)) = true) : Runs Try.ir 14 [.sl rs.length (pc rs)] (.bool false) :=
  Runs.of_bodyW (fn := Try.i14) (s := (.val (.sl rs.length (pc rs)) :: (dds 1 (.val (.bool false) :: (dds 1 (.val (.sl rs.length (pc rs)) :: (.val (.int .i64 ((rs.length : Nat) : Int)) :: (.val (.bool (decide (((rs.length : Nat) : Int) > 10))) :: (dds 13 []))))))))) (ex := .ret) rfl rfl
    (RunsW.seq (RunsW.script (t := (.val (.sl rs.length (pc rs)) :: (dds 1 (.val (.bool false) :: (dds 17 []))))) (ex := .norm) (ps := []) TGB_holds 400 [] [0, 2] (by kernel_rfl) trivial)
    (RunsW.seq_out (RunsW.script (t := (.val (.sl rs.length (pc rs)) :: (dds 1 (.val (.bool false) :: (dds 1 (.val (.sl rs.length (pc rs)) :: (.val (.int .i64 ((rs.length : Nat) : Int)) :: (.val (.bool (decide (((rs.length : Nat) : Int) > 10))) :: (dds 13 []))))))))) (ex := .ret) (ps := [(decide (((rs.length : Nat) : Int) > 10)) = true]) TGB_holds 400 [.b true] [0, 2, 4, 5, 6] (by kernel_rfl) ⟨c1, trivial⟩) (by intro e; cases e))) (by intro i e; cases e) rfl

theorem Try.run14_n_2 (rs : List Rn) (i : Int) (c1 : (decide (((rs.length : Nat) : Int) > 10)) = false)
    (hl1 : RunsW Try.ir (.loop Try.c14) (Try.s14 false rs 0) .ret (Try.s14 false rs i)) : Runs Try.ir 14 [.sl rs.length (pc rs)] (.bool false) :=
  Runs.of_bodyW (fn := Try.i14) (s := (.val (.sl rs.length (pc rs)) :: (dds 1 (.val (.bool false) :: (.val (.int .i64 i) :: (dds 16 [])))))) (ex := .ret) rfl rfl
    (RunsW.seq (RunsW.script (t := (.val (.sl rs.length (pc rs)) :: (dds 1 (.val (.bool false) :: (dds 17 []))))) (ex := .norm) (ps := []) TGB_holds 400 [] [0, 2] (by kernel_rfl) trivial)
    (RunsW.seq (RunsW.script (t := (.val (.sl rs.length (pc rs)) :: (dds 1 (.val (.bool false) :: (dds 1 (.val (.sl rs.length (pc rs)) :: (.val (.int .i64 ((rs.length : Nat) : Int)) :: (.val (.bool (decide (((rs.length : Nat) : Int) > 10))) :: (dds 13 []))))))))) (ex := .norm) (ps := [(decide (((rs.length : Nat) : Int) > 10)) = false]) TGB_holds 400 [.b false] [0, 2, 4, 5, 6] (by kernel_rfl) ⟨c1, trivial⟩)
    (RunsW.seq_out (RunsW.seq (RunsW.script (t := (.val (.sl rs.length (pc rs)) :: (dds 1 (.val (.bool false) :: (.val (.int .i64 0) :: (dds 16 [])))))) (ex := .norm) (ps := []) TGB_holds 400 [] [0, 2, 3] (by kernel_rfl) trivial)
    (RunsW.block_ret hl1)) (by intro e; cases e)))) (by intro i e; cases e) rfl

theorem Try.run14_y_1 (rs : List Rn) (c1 : (decide (((rs.length : Nat) : Int) > 10)) = true) : Runs Try.ir 14 [.sl rs.length (pc rs)] (.bool false) :=
  Runs.of_bodyW (fn := Try.i14) (s := (.val (.sl rs.length (pc rs)) :: (dds 1 (.val (.bool false) :: (dds 1 (.val (.sl rs.length (pc rs)) :: (.val (.int .i64 ((rs.length : Nat) : Int)) :: (.val (.bool (decide (((rs.length : Nat) : Int) > 10))) :: (dds 13 []))))))))) (ex := .ret) rfl rfl
    (RunsW.seq (RunsW.script (t := (.val (.sl rs.length (pc rs)) :: (dds 1 (.val (.bool false) :: (dds 17 []))))) (ex := .norm) (ps := []) TGB_holds 400 [] [0, 2] (by kernel_rfl) trivial)
    (RunsW.seq_out (RunsW.script (t := (.val (.sl rs.length (pc rs)) :: (dds 1 (.val (.bool false) :: (dds 1 (.val (.sl rs.length (pc rs)) :: (.val (.int .i64 ((rs.length : Nat) : Int)) :: (.val (.bool (decide (((rs.length : Nat) : Int) > 10))) :: (dds 13 []))))))))) (ex := .ret) (ps := [(decide (((rs.length : Nat) : Int) > 10)) = true]) TGB_holds 400 [.b true] [0, 2, 4, 5, 6] (by kernel_rfl) ⟨c1, trivial⟩) (by intro e; cases e))) (by intro i e; cases e) rfl

theorem Try.run14_y_2 (rs : List Rn) (i : Int) (c1 : (decide (((rs.length : Nat) : Int) > 10)) = false)
    (hl1 : RunsW Try.ir (.loop Try.c14) (Try.s14 false rs 0) (.exit 0) (Try.s14 false rs i)) : Runs Try.ir 14 [.sl rs.length (pc rs)] (.bool true) :=
  Runs.of_bodyW (fn := Try.i14) (s := (.val (.sl rs.length (pc rs)) :: (dds 1 (.val (.bool true) :: (.val (.int .i64 i) :: (dds 16 [])))))) (ex := .ret) rfl rfl
    (RunsW.seq (RunsW.script (t := (.val (.sl rs.length (pc rs)) :: (dds 1 (.val (.bool false) :: (dds 17 []))))) (ex := .norm) (ps := []) TGB_holds 400 [] [0, 2] (by kernel_rfl) trivial)
    (RunsW.seq (RunsW.script (t := (.val (.sl rs.length (pc rs)) :: (dds 1 (.val (.bool false) :: (dds 1 (.val (.sl rs.length (pc rs)) :: (.val (.int .i64 ((rs.length : Nat) : Int)) :: (.val (.bool (decide (((rs.length : Nat) : Int) > 10))) :: (dds 13 []))))))))) (ex := .norm) (ps := [(decide (((rs.length : Nat) : Int) > 10)) = false]) TGB_holds 400 [.b false] [0, 2, 4, 5, 6] (by kernel_rfl) ⟨c1, trivial⟩)
    (RunsW.seq (RunsW.seq (RunsW.script (t := (.val (.sl rs.length (pc rs)) :: (dds 1 (.val (.bool false) :: (.val (.int .i64 0) :: (dds 16 [])))))) (ex := .norm) (ps := []) TGB_holds 400 [] [0, 2, 3] (by kernel_rfl) trivial)
    (RunsW.block hl1))
    (RunsW.script (t := (.val (.sl rs.length (pc rs)) :: (dds 1 (.val (.bool true) :: (.val (.int .i64 i) :: (dds 16 [])))))) (ex := .ret) (ps := []) TGB_holds 400 [] [0, 2, 3] (by kernel_rfl) trivial)))) (by intro i e; cases e) rfl

theorem Try.run6_1 (rs : List Rn) (r : Rn) (e : Int) (fw : Bool) (c3 : (fw) = true)
    (c4 : (decide (((r.2.length : Nat) : Int) > 20)) = true)
    (n1 : Runs Try.ir 13 [] (.bool true))
    (n2 : Runs Try.ir 14 [.sl rs.length (pc rs)] (.bool fw)) : Runs Try.ir 6 [.sl rs.length (pc rs), .agg [.bool r.1, .sl r.2.length (lm r.2), .int .i64 e]] (.bool true) :=
  Runs.script (r := .bool true) (ps := [Runs Try.ir 13 [] (.bool true), false = false, Runs Try.ir 14 [.sl rs.length (pc rs)] (.bool fw), (!fw) = false, (decide (((r.2.length : Nat) : Int) > 20)) = true, Runs Try.ir 13 [] (.bool true)]) TGB_holds rfl 400 rfl [.r (.bool true), .b false, .r (.bool fw), .b false, .b true, .r (.bool true)] (by kernel_rfl) ⟨n1, rfl, n2, (by rw [c3]; rfl), c4, n1, trivial⟩

theorem Try.run6_2 (rs : List Rn) (r : Rn) (e s1 s2 : Int) (fw : Bool) (c1 : (s1 == s1) = true)
    (c3 : (fw) = true)
    (c4 : (decide (((r.2.length : Nat) : Int) > 20)) = false)
    (n1 : Runs Try.ir 13 [] (.bool true))
    (n2 : Runs Try.ir 14 [.sl rs.length (pc rs)] (.bool fw))
    (n3 : Runs Try.ir 29 [.sl rs.length (pc rs), .agg [.bool r.1, .sl r.2.length (lm r.2), .int .i64 e]] (.tup [.int .i64 s1, .int .i64 s2]))
    (n4 : Runs Try.ir 30 [.sl rs.length (pc rs), .agg [.bool r.1, .sl r.2.length (lm r.2), .int .i64 e]] (.tup [.int .i64 s1, .int .i64 s2])) : Runs Try.ir 6 [.sl rs.length (pc rs), .agg [.bool r.1, .sl r.2.length (lm r.2), .int .i64 e]] (.bool (s2 == s2)) :=
  Runs.script (r := .bool (s2 == s2)) (ps := [Runs Try.ir 13 [] (.bool true), false = false, Runs Try.ir 14 [.sl rs.length (pc rs)] (.bool fw), (!fw) = false, (decide (((r.2.length : Nat) : Int) > 20)) = false, Runs Try.ir 29 [.sl rs.length (pc rs), .agg [.bool r.1, .sl r.2.length (lm r.2), .int .i64 e]] (.tup [.int .i64 s1, .int .i64 s2]), Runs Try.ir 30 [.sl rs.length (pc rs), .agg [.bool r.1, .sl r.2.length (lm r.2), .int .i64 e]] (.tup [.int .i64 s1, .int .i64 s2]), (s1 == s1) = true]) TGB_holds rfl 400 rfl [.r (.bool true), .b false, .r (.bool fw), .b false, .b false, .r (.tup [.int .i64 s1, .int .i64 s2]), .r (.tup [.int .i64 s1, .int .i64 s2]), .b true] (by kernel_rfl) ⟨n1, rfl, n2, (by rw [c3]; rfl), c4, n3, n4, c1, trivial⟩

theorem Try.run6_3 (rs : List Rn) (r : Rn) (e : Int) (fw : Bool) (c3 : (fw) = false)
    (n1 : Runs Try.ir 13 [] (.bool true))
    (n2 : Runs Try.ir 14 [.sl rs.length (pc rs)] (.bool fw)) : Runs Try.ir 6 [.sl rs.length (pc rs), .agg [.bool r.1, .sl r.2.length (lm r.2), .int .i64 e]] (.bool true) :=
  Runs.script (r := .bool true) (ps := [Runs Try.ir 13 [] (.bool true), false = false, Runs Try.ir 14 [.sl rs.length (pc rs)] (.bool fw), (!fw) = true, true = true, Runs Try.ir 13 [] (.bool true)]) TGB_holds rfl 400 rfl [.r (.bool true), .b false, .r (.bool fw), .b true, .b true, .r (.bool true)] (by kernel_rfl) ⟨n1, rfl, n2, (by rw [c3]; rfl), rfl, n1, trivial⟩


def fewB (n m : Nat) (rs : List Rn) : Bool := decide (rs.length ≤ n) && rs.all (fun r => decide (r.2.length ≤ m))
theorem fewB_yes {n m : Nat} {rs : List Rn} (h : fewB n m rs = true) (hu : ∀ r ∈ rs, U32 r.2) : rs.length ≤ n ∧ ∀ r ∈ rs, Good m r := by
  unfold fewB at h
  rw [Bool.and_eq_true, decide_eq_true_eq, List.all_eq_true] at h
  exact ⟨h.1, fun r hr => ⟨hu r hr, by simpa using h.2 r hr⟩⟩
theorem few_run (rs : List Rn) : Runs Try.ir 14 [.sl rs.length (pc rs)] (.bool (fewB 10 6 rs)) := by
  unfold fewB
  by_cases h10 : rs.length ≤ 10
  · rw [decide_eq_true h10, Bool.true_and]
    have c1 : decide (((rs.length : Nat) : Int) > 10) = false := by rw [decide_eq_false_iff_not]; omega
    have step : ∀ t : Nat, t < rs.length → (rs.getD t z0).2.length ≤ 6 → RunsW Try.ir Try.c14 (Try.s14 false rs (t : Nat)) .norm (Try.s14 false rs ((t + 1 : Nat) : Int)) := by
      intro t ht hb
      have ei : IntKind.i64.wrap (((t : Nat) : Int) + 1) = ((t + 1 : Nat) : Int) := by rw [w64 (by omega) (by omega)]; omega
      have k2 := Try.k14_2 false rs (t : Nat) (by simp; omega) (by rw [Int.toNat_natCast, decide_eq_false_iff_not]; omega) (by omega)
      rwa [ei] at k2
    rcases first_from (fun j => !decide ((rs.getD j z0).2.length ≤ 6)) rs.length _ 0 (by rw [Nat.zero_add]) with h | ⟨j, _, h2, h3, h4⟩
    · have hall : (rs.all fun r => decide (r.2.length ≤ 6)) = true := by
        rw [List.all_eq_true]
        intro r hr
        obtain ⟨i, hi, rfl⟩ := List.mem_iff_getElem.1 hr
        have := h i (by omega) hi
        rw [List.getD_eq_getElem?_getD, List.getElem?_eq_getElem hi] at this
        simpa using this
      rw [hall]
      exact Try.run14_y_2 rs _ c1 (RunsW.upTo (prog := Try.ir) (c := Try.c14) (ex := .exit 0) (fun t => Try.s14 false rs (t : Nat)) rs.length (by intro e; cases e) (Try.k14_3 false rs _ (by simp)) 0 (Nat.zero_le _) (fun t _ h6 => step t h6 (by simpa using h t (by omega) h6)))
    · have hall : (rs.all fun r => decide (r.2.length ≤ 6)) = false := by
        rw [List.all_eq_false]
        refine ⟨rs.getD j z0, ?_, by simpa using h3⟩
        rw [List.getD_eq_getElem?_getD, List.getElem?_eq_getElem h2]
        exact List.getElem_mem h2
      rw [hall]
      have h3' : ¬ (rs.getD j z0).2.length ≤ 6 := by simpa using h3
      have out := Try.k14_1 false rs (j : Nat) (by simp; omega) (by rw [Int.toNat_natCast, decide_eq_true_eq]; omega) (by omega)
      exact Try.run14_n_2 rs _ c1 (RunsW.upTo (prog := Try.ir) (c := Try.c14) (ex := .ret) (fun t => Try.s14 false rs (t : Nat)) j (by intro e; cases e) out 0 (Nat.zero_le _) (fun t _ h6 => step t (by omega) (by simpa using h4 t (by omega) h6)))
  · rw [decide_eq_false h10, Bool.false_and]
    exact Try.run14_n_1 rs (by rw [decide_eq_true_eq]; omega)
theorem psigns_run {rs : List Rn} {r : Rn} (e : Int) (hu : ∀ r ∈ rs, U32 r.2) (hr : U32 r.2) : Runs Try.ir 6 [.sl rs.length (pc rs), .agg [.bool r.1, .sl r.2.length (lm r.2), .int .i64 e]] (.bool true) := by
  have haw := Try.run13
  have hfw := few_run rs
  cases c : fewB 10 6 rs with
  | false => rw [c] at hfw; exact Try.run6_3 rs r e false rfl haw hfw
  | true =>
    rw [c] at hfw
    obtain ⟨h1, h2⟩ := fewB_yes c hu
    by_cases h20 : r.2.length > 20
    · exact Try.run6_1 rs r e true rfl (by rw [decide_eq_true_eq]; omega) haw hfw
    · have hS : 6 + 2 + (rs.length + 1) * (20 + 131) ≤ 1048576 := by omega
      have hX : Good 20 r := ⟨hr, by omega⟩
      have k := Try.run6_2 rs r e _ _ true (by simp) rfl (by rw [decide_eq_false_iff_not]; omega) haw hfw (psign_run h2 hX hS) (r2sign_run h2 hX hS)
      rwa [beq_self_eq_true] at k

def TPS : Table := TGB
theorem TPS_holds : THolds Try.ir TPS := TGB_holds
end Go.Proofs.Ythnnfemologhfaa
