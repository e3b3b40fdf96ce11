/- pinballref01: comparison of magnitudes and of integers. -/
import Derived.Test.YthnnfemologhfaaBigA
namespace Go.Proofs.Ythnnfemologhfaa
open Go.Ai
set_option maxRecDepth 100000

def Try.c139 : ICode := .seq (.seq (.region false [oM 19 5,
   o1 20 (.bin .geq (.t 19) (.c (.int .i64 0)))])
  (.cond (.t 20) (.skip)
  (.exit 0)))
  (.seq (.block 1 (.seq (.region true [oM 23 0,
   oM 24 5,
   o1 25 (.ixa 23 (.t 24) 1),
   o1 26 (.ld 25 25 1 true),
   oM 27 1,
   oM 28 5,
   o1 29 (.ixa 27 (.t 28) 1),
   o1 30 (.ld 29 29 1 true),
   oB 31 .neq 26 30])
  (.cond (.t 31) (.seq (.seq (.region true [oM 32 0,
   oM 33 5,
   o1 34 (.ixa 32 (.t 33) 1),
   o1 35 (.ld 34 34 1 true),
   oM 36 1,
   oM 37 5,
   o1 38 (.ixa 36 (.t 37) 1),
   o1 39 (.ld 38 38 1 true),
   oB 40 .lss 35 39])
  (.cond (.t 40) (.seq (.region false [o1 4 (.mov (.c (.int .i64 (-1))))])
  (.ret))
  (.skip)))
  (.seq (.region false [o1 4 (.mov (.c (.int .i64 1)))])
  (.ret)))
  (.skip))))
  (.region false [oM 21 5,
   o1 22 (.bin .sub (.t 21) (.c (.int .i64 1))),
   oM 5 22]))
def Try.s139 (N : Nat) (cs : List AV) (M : Nat) (ds : List AV) (v i : Int) : State := (.val (.sl N cs) :: (.val (.sl M ds) :: (dds 2 (.val (.int .i64 v) :: (.val (.int .i64 i) :: (dds 35 []))))))
theorem Try.k139_1 (N : Nat) (cs : List AV) (M : Nat) (ds : List AV) (v i x y : Int) (c1 : (decide (i ≥ 0)) = true) (c2 : (x != y) = true) (c3 : (decide (x < y)) = true) (n1 : 0 ≤ i ∧ i < ((N : Nat) : Int)) (n2 : takeA (List.drop (Int.toNat i * 1) cs) 0 1 true = some (.int .u32 x)) (n3 : 0 ≤ i ∧ i < ((M : Nat) : Int)) (n4 : takeA (List.drop (Int.toNat i * 1) ds) 0 1 true = some (.int .u32 y)) (n5 : 0 ≤ i ∧ i < ((N : Nat) : Int)) (n6 : takeA (List.drop (Int.toNat i * 1) cs) 0 1 true = some (.int .u32 x)) (n7 : 0 ≤ i ∧ i < ((M : Nat) : Int)) (n8 : takeA (List.drop (Int.toNat i * 1) ds) 0 1 true = some (.int .u32 y)) : RunsW Try.ir Try.c139 (Try.s139 N cs M ds v i) .ret (Try.s139 N cs M ds (-1) i) :=
  RunsW.script (ps := [(decide (i ≥ 0)) = true, 0 ≤ i ∧ i < ((N : Nat) : Int), takeA (List.drop (Int.toNat i * 1) cs) 0 1 true = some (.int .u32 x), 0 ≤ i ∧ i < ((M : Nat) : Int), takeA (List.drop (Int.toNat i * 1) ds) 0 1 true = some (.int .u32 y), (x != y) = true, 0 ≤ i ∧ i < ((N : Nat) : Int), takeA (List.drop (Int.toNat i * 1) cs) 0 1 true = some (.int .u32 x), 0 ≤ i ∧ i < ((M : Nat) : Int), takeA (List.drop (Int.toNat i * 1) ds) 0 1 true = some (.int .u32 y), (decide (x < y)) = true]) TBA_holds 300 [.b true, .v (.int .u32 x), .v (.int .u32 y), .b true, .v (.int .u32 x), .v (.int .u32 y), .b true] [0, 1, 4, 5] (by kernel_rfl) ⟨c1, n1, n2, n3, n4, c2, n5, n6, n7, n8, c3, trivial⟩
theorem Try.k139_2 (N : Nat) (cs : List AV) (M : Nat) (ds : List AV) (v i x y : Int) (c1 : (decide (i ≥ 0)) = true) (c2 : (x != y) = true) (c3 : (decide (x < y)) = false) (n1 : 0 ≤ i ∧ i < ((N : Nat) : Int)) (n2 : takeA (List.drop (Int.toNat i * 1) cs) 0 1 true = some (.int .u32 x)) (n3 : 0 ≤ i ∧ i < ((M : Nat) : Int)) (n4 : takeA (List.drop (Int.toNat i * 1) ds) 0 1 true = some (.int .u32 y)) (n5 : 0 ≤ i ∧ i < ((N : Nat) : Int)) (n6 : takeA (List.drop (Int.toNat i * 1) cs) 0 1 true = some (.int .u32 x)) (n7 : 0 ≤ i ∧ i < ((M : Nat) : Int)) (n8 : takeA (List.drop (Int.toNat i * 1) ds) 0 1 true = some (.int .u32 y)) : RunsW Try.ir Try.c139 (Try.s139 N cs M ds v i) .ret (Try.s139 N cs M ds 1 i) :=
  RunsW.script (ps := [(decide (i ≥ 0)) = true, 0 ≤ i ∧ i < ((N : Nat) : Int), takeA (List.drop (Int.toNat i * 1) cs) 0 1 true = some (.int .u32 x), 0 ≤ i ∧ i < ((M : Nat) : Int), takeA (List.drop (Int.toNat i * 1) ds) 0 1 true = some (.int .u32 y), (x != y) = true, 0 ≤ i ∧ i < ((N : Nat) : Int), takeA (List.drop (Int.toNat i * 1) cs) 0 1 true = some (.int .u32 x), 0 ≤ i ∧ i < ((M : Nat) : Int), takeA (List.drop (Int.toNat i * 1) ds) 0 1 true = some (.int .u32 y), (decide (x < y)) = false]) TBA_holds 300 [.b true, .v (.int .u32 x), .v (.int .u32 y), .b true, .v (.int .u32 x), .v (.int .u32 y), .b false] [0, 1, 4, 5] (by kernel_rfl) ⟨c1, n1, n2, n3, n4, c2, n5, n6, n7, n8, c3, trivial⟩
theorem Try.k139_3 (N : Nat) (cs : List AV) (M : Nat) (ds : List AV) (v i x y : Int) (c1 : (decide (i ≥ 0)) = true) (c2 : (x != y) = false) (n1 : 0 ≤ i ∧ i < ((N : Nat) : Int)) (n2 : takeA (List.drop (Int.toNat i * 1) cs) 0 1 true = some (.int .u32 x)) (n3 : 0 ≤ i ∧ i < ((M : Nat) : Int)) (n4 : takeA (List.drop (Int.toNat i * 1) ds) 0 1 true = some (.int .u32 y)) : RunsW Try.ir Try.c139 (Try.s139 N cs M ds v i) .norm (Try.s139 N cs M ds v (IntKind.i64.wrap (i - 1))) :=
  RunsW.script (ps := [(decide (i ≥ 0)) = true, 0 ≤ i ∧ i < ((N : Nat) : Int), takeA (List.drop (Int.toNat i * 1) cs) 0 1 true = some (.int .u32 x), 0 ≤ i ∧ i < ((M : Nat) : Int), takeA (List.drop (Int.toNat i * 1) ds) 0 1 true = some (.int .u32 y), (x != y) = false]) TBA_holds 300 [.b true, .v (.int .u32 x), .v (.int .u32 y), .b false] [0, 1, 4, 5] (by kernel_rfl) ⟨c1, n1, n2, n3, n4, c2, trivial⟩
theorem Try.k139_4 (N : Nat) (cs : List AV) (M : Nat) (ds : List AV) (v i : Int) (c1 : (decide (i ≥ 0)) = false) : RunsW Try.ir Try.c139 (Try.s139 N cs M ds v i) (.exit 0) (Try.s139 N cs M ds v i) :=
  RunsW.script (ps := [(decide (i ≥ 0)) = false]) TBA_holds 300 [.b false] [0, 1, 4, 5] (by kernel_rfl) ⟨c1, trivial⟩

def cmpI (a b : Int) : Int := if a < b then -1 else if b < a then 1 else 0
def sgnI (n : Int) : Int := if n < 0 then -1 else if 0 < n then 1 else 0
def cmpGo (xs ys : List Int) : Nat → Int
  | 0 => 0
  | m + 1 => if xs.getD m 0 = ys.getD m 0 then cmpGo xs ys m else if xs.getD m 0 < ys.getD m 0 then -1 else 1

theorem take_succ_val (xs : List Int) (m : Nat) (h : m < xs.length) : valL (xs.take (m + 1)) = valL (xs.take m) + 4294967296 ^ m * xs.getD m 0 := by
  rw [List.take_add_one, List.getElem?_eq_getElem h, Option.toList_some, valL_append]
  have : (xs.take m).length = m := by simp; omega
  rw [this]
  simp [valL, List.getD_eq_getElem?_getD, List.getElem?_eq_getElem h]

theorem cmp_step {A B x y P : Int} (hA : 0 ≤ A ∧ A < P) (hB : 0 ≤ B ∧ B < P) (h : x < y) : A + P * x < B + P * y := by
  have := Int.mul_le_mul_of_nonneg_left (show x + 1 ≤ y by omega) (show 0 ≤ P by omega)
  rw [Int.mul_add, Int.mul_one] at this
  omega

theorem cmpGo_eq {xs ys : List Int} (hx : U32 xs) (hy : U32 ys) : ∀ m, m ≤ xs.length → m ≤ ys.length → cmpGo xs ys m = cmpI (valL (xs.take m)) (valL (ys.take m)) := by
  intro m
  induction m with
  | zero => intro _ _; simp [cmpGo, cmpI, valL]
  | succ m ih =>
    intro h1 h2
    simp only [cmpGo]
    rw [take_succ_val xs m (by omega), take_succ_val ys m (by omega)]
    have ux : U32 (xs.take m) := fun x hx' => hx x (List.mem_of_mem_take hx')
    have uy : U32 (ys.take m) := fun x hx' => hy x (List.mem_of_mem_take hx')
    have a1 := valL_nonneg ux
    have a2 := valL_lt ux
    have b1 := valL_nonneg uy
    have b2 := valL_lt uy
    rw [show (xs.take m).length = m by simp; omega] at a2
    rw [show (ys.take m).length = m by simp; omega] at b2
    by_cases h : xs.getD m 0 = ys.getD m 0
    · rw [if_pos h, ih (by omega) (by omega), h]
      unfold cmpI
      congr 1
      · rw [eq_iff_iff]; omega
      · congr 1
        rw [eq_iff_iff]; omega
    · rw [if_neg h]
      by_cases hlt : xs.getD m 0 < ys.getD m 0
      · rw [if_pos hlt]
        have := cmp_step ⟨a1, a2⟩ ⟨b1, b2⟩ hlt
        unfold cmpI
        rw [if_pos this]
      · rw [if_neg hlt]
        have := cmp_step ⟨b1, b2⟩ ⟨a1, a2⟩ (show ys.getD m 0 < xs.getD m 0 by omega)
        unfold cmpI
        rw [if_neg (by omega), if_pos this]

theorem cmpGo_cases (xs ys : List Int) (m : Nat) : cmpGo xs ys m = 0 ∨ cmpGo xs ys m = 1 ∨ cmpGo xs ys m = -1 := by
  induction m with
  | zero => exact .inl rfl
  | succ m ih =>
    simp only [cmpGo]
    split
    · exact ih
    · split <;> simp

theorem Try.loop139 (xs ys : List Int) (hN : xs.length ≤ 1048576) (hl : xs.length = ys.length) : ∀ m, m ≤ xs.length →
    (cmpGo xs ys m = 0 ∧ RunsW Try.ir (.loop Try.c139) (Try.s139 xs.length (lm xs) ys.length (lm ys) 0 (((m : Nat) : Int) - 1)) (.exit 0) (Try.s139 xs.length (lm xs) ys.length (lm ys) 0 (-1))) ∨
    (cmpGo xs ys m ≠ 0 ∧ ∃ j, RunsW Try.ir (.loop Try.c139) (Try.s139 xs.length (lm xs) ys.length (lm ys) 0 (((m : Nat) : Int) - 1)) .ret (Try.s139 xs.length (lm xs) ys.length (lm ys) (cmpGo xs ys m) j)) := by
  intro m
  induction m with
  | zero =>
    intro _
    left
    refine ⟨rfl, ?_⟩
    exact RunsW.loop_out (Try.k139_4 xs.length (lm xs) ys.length (lm ys) 0 (((0 : Nat) : Int) - 1) (by simp)) (by intro e; cases e)
  | succ m ih =>
    intro hm
    have e0 : ((m + 1 : Nat) : Int) - 1 = ((m : Nat) : Int) := by omega
    have e1 : IntKind.i64.wrap (((m : Nat) : Int) - 1) = ((m : Nat) : Int) - 1 := w64 (by omega) (by omega)
    have hx := take_lim (xs := xs) (i := m) (by omega)
    have hy := take_lim (xs := ys) (i := m) (by omega)
    rw [e0]
    simp only [cmpGo]
    by_cases h : xs.getD m 0 = ys.getD m 0
    · rw [if_pos h]
      have h1 := Try.k139_3 xs.length (lm xs) ys.length (lm ys) 0 ((m : Nat) : Int) (xs.getD m 0) (ys.getD m 0) (by simp) (by simpa using h) (by omega) (by rw [Int.toNat_natCast]; exact hx) (by omega) (by rw [Int.toNat_natCast]; exact hy)
      rw [e1] at h1
      rcases ih (by omega) with ⟨k1, k2⟩ | ⟨k1, j, k2⟩
      · exact .inl ⟨k1, RunsW.loop h1 k2⟩
      · exact .inr ⟨k1, j, RunsW.loop h1 k2⟩
    · rw [if_neg h]
      right
      by_cases hlt : xs.getD m 0 < ys.getD m 0
      · rw [if_pos hlt]
        refine ⟨by decide, ((m : Nat) : Int), ?_⟩
        exact RunsW.loop_out (Try.k139_1 xs.length (lm xs) ys.length (lm ys) 0 ((m : Nat) : Int) (xs.getD m 0) (ys.getD m 0) (by simp) (by simpa using h) (by simpa using hlt) (by omega) (by rw [Int.toNat_natCast]; exact hx) (by omega) (by rw [Int.toNat_natCast]; exact hy) (by omega) (by rw [Int.toNat_natCast]; exact hx) (by omega) (by rw [Int.toNat_natCast]; exact hy)) (by intro e; cases e)
      · rw [if_neg hlt]
        refine ⟨by decide, ((m : Nat) : Int), ?_⟩
        exact RunsW.loop_out (Try.k139_2 xs.length (lm xs) ys.length (lm ys) 0 ((m : Nat) : Int) (xs.getD m 0) (ys.getD m 0) (by simp) (by simpa using h) (by simpa using hlt) (by omega) (by rw [Int.toNat_natCast]; exact hx) (by omega) (by rw [Int.toNat_natCast]; exact hy) (by omega) (by rw [Int.toNat_natCast]; exact hx) (by omega) (by rw [Int.toNat_natCast]; exact hy)) (by intro e; cases e)

theorem Try.run139_lt (xs ys : List Int) (h : (((xs.length : Nat) : Int) != ((ys.length : Nat) : Int)) = true) (h2 : (decide (((xs.length : Nat) : Int) < ((ys.length : Nat) : Int))) = true) : Runs Try.ir 139 [.sl xs.length (lm xs), .sl ys.length (lm ys)] (.int .i64 (-1)) :=
  Runs.script (ps := [(((xs.length : Nat) : Int) != ((ys.length : Nat) : Int)) = true, (decide (((xs.length : Nat) : Int) < ((ys.length : Nat) : Int))) = true]) TBA_holds rfl 300 rfl [.b true, .b true] (by kernel_rfl) ⟨h, h2, trivial⟩
theorem Try.run139_gt (xs ys : List Int) (h : (((xs.length : Nat) : Int) != ((ys.length : Nat) : Int)) = true) (h2 : (decide (((xs.length : Nat) : Int) < ((ys.length : Nat) : Int))) = false) : Runs Try.ir 139 [.sl xs.length (lm xs), .sl ys.length (lm ys)] (.int .i64 1) :=
  Runs.script (ps := [(((xs.length : Nat) : Int) != ((ys.length : Nat) : Int)) = true, (decide (((xs.length : Nat) : Int) < ((ys.length : Nat) : Int))) = false]) TBA_holds rfl 300 rfl [.b true, .b false] (by kernel_rfl) ⟨h, h2, trivial⟩
theorem Try.run139_eq (xs ys : List Int) (h : (((xs.length : Nat) : Int) != ((ys.length : Nat) : Int)) = false) (hl : RunsW Try.ir (.loop Try.c139) (Try.s139 xs.length (lm xs) ys.length (lm ys) 0 (IntKind.i64.wrap (((xs.length : Nat) : Int) - 1))) (.exit 0) (Try.s139 xs.length (lm xs) ys.length (lm ys) 0 (-1))) : Runs Try.ir 139 [.sl xs.length (lm xs), .sl ys.length (lm ys)] (.int .i64 0) :=
  Runs.of_bodyW (fn := Try.i139) (s := (.val (.sl xs.length (lm xs)) :: (.val (.sl ys.length (lm ys)) :: (dds 2 (.val (.int .i64 0) :: (.val (.int .i64 (-1)) :: (dds 35 []))))))) (ex := .ret) rfl rfl
    (RunsW.seq (RunsW.script (t := (.val (.sl xs.length (lm xs)) :: (.val (.sl ys.length (lm ys)) :: (dds 2 (.val (.int .i64 0) :: (dds 36 [])))))) (ex := .norm) (ps := []) TBA_holds 300 [] [0, 1, 4] (by kernel_rfl) trivial)
    (RunsW.seq (RunsW.script (t := (.val (.sl xs.length (lm xs)) :: (.val (.sl ys.length (lm ys)) :: (dds 2 (.val (.int .i64 0) :: (dds 1 (.val (.sl xs.length (lm xs)) :: (.val (.int .i64 ((xs.length : Nat) : Int)) :: (.val (.sl ys.length (lm ys)) :: (.val (.int .i64 ((ys.length : Nat) : Int)) :: (.val (.bool (((xs.length : Nat) : Int) != ((ys.length : Nat) : Int))) :: (dds 30 [])))))))))))) (ex := .norm) (ps := [(((xs.length : Nat) : Int) != ((ys.length : Nat) : Int)) = false]) TBA_holds 300 [.b false] [0, 1, 4, 6, 7, 8, 9, 10] (by kernel_rfl) ⟨h, trivial⟩)
    (RunsW.seq (RunsW.seq (RunsW.script (t := (.val (.sl xs.length (lm xs)) :: (.val (.sl ys.length (lm ys)) :: (dds 2 (.val (.int .i64 0) :: (.val (.int .i64 (IntKind.i64.wrap (((xs.length : Nat) : Int) - 1))) :: (dds 35 []))))))) (ex := .norm) (ps := []) TBA_holds 300 [] [0, 1, 4, 5] (by kernel_rfl) trivial)
    (RunsW.block hl))
    (RunsW.script (t := (.val (.sl xs.length (lm xs)) :: (.val (.sl ys.length (lm ys)) :: (dds 2 (.val (.int .i64 0) :: (.val (.int .i64 (-1)) :: (dds 35 []))))))) (ex := .ret) (ps := []) TBA_holds 300 [] [0, 1, 4, 5] (by kernel_rfl) trivial)))) (by intro i e; cases e) rfl
theorem Try.run139_ne (xs ys : List Int) (r j : Int) (h : (((xs.length : Nat) : Int) != ((ys.length : Nat) : Int)) = false) (hl : RunsW Try.ir (.loop Try.c139) (Try.s139 xs.length (lm xs) ys.length (lm ys) 0 (IntKind.i64.wrap (((xs.length : Nat) : Int) - 1))) .ret (Try.s139 xs.length (lm xs) ys.length (lm ys) r j)) : Runs Try.ir 139 [.sl xs.length (lm xs), .sl ys.length (lm ys)] (.int .i64 r) :=
  Runs.of_bodyW (fn := Try.i139) (s := (.val (.sl xs.length (lm xs)) :: (.val (.sl ys.length (lm ys)) :: (dds 2 (.val (.int .i64 r) :: (.val (.int .i64 j) :: (dds 35 []))))))) (ex := .ret) rfl rfl
    (RunsW.seq (RunsW.script (t := (.val (.sl xs.length (lm xs)) :: (.val (.sl ys.length (lm ys)) :: (dds 2 (.val (.int .i64 0) :: (dds 36 [])))))) (ex := .norm) (ps := []) TBA_holds 300 [] [0, 1, 4] (by kernel_rfl) trivial)
    (RunsW.seq (RunsW.script (t := (.val (.sl xs.length (lm xs)) :: (.val (.sl ys.length (lm ys)) :: (dds 2 (.val (.int .i64 0) :: (dds 1 (.val (.sl xs.length (lm xs)) :: (.val (.int .i64 ((xs.length : Nat) : Int)) :: (.val (.sl ys.length (lm ys)) :: (.val (.int .i64 ((ys.length : Nat) : Int)) :: (.val (.bool (((xs.length : Nat) : Int) != ((ys.length : Nat) : Int))) :: (dds 30 [])))))))))))) (ex := .norm) (ps := [(((xs.length : Nat) : Int) != ((ys.length : Nat) : Int)) = false]) TBA_holds 300 [.b false] [0, 1, 4, 6, 7, 8, 9, 10] (by kernel_rfl) ⟨h, trivial⟩)
    (RunsW.seq_out (RunsW.seq (RunsW.script (t := (.val (.sl xs.length (lm xs)) :: (.val (.sl ys.length (lm ys)) :: (dds 2 (.val (.int .i64 0) :: (.val (.int .i64 (IntKind.i64.wrap (((xs.length : Nat) : Int) - 1))) :: (dds 35 []))))))) (ex := .norm) (ps := []) TBA_holds 300 [] [0, 1, 4, 5] (by kernel_rfl) trivial)
    (RunsW.block_ret hl)) (by intro e; cases e)))) (by intro i e; cases e) rfl

theorem canon_lt {xs ys : List Int} (hx : Canon xs) (hy : Canon ys) (h : xs.length < ys.length) : valL xs < valL ys := by
  have h1 := valL_lt hx.1
  have h2 := canon_ge hy (by intro e; rw [e] at h; simp at h)
  have := pow32_mono (show xs.length ≤ ys.length - 1 by omega)
  omega

theorem cmpMag_run {xs ys : List Int} (hx : Canon xs) (hy : Canon ys) (hN : xs.length ≤ 1048576) : Runs Try.ir 139 [.sl xs.length (lm xs), .sl ys.length (lm ys)] (.int .i64 (cmpI (valL xs) (valL ys))) := by
  by_cases hl : xs.length = ys.length
  · have h : (((xs.length : Nat) : Int) != ((ys.length : Nat) : Int)) = false := by rw [hl]; simp
    have hg := cmpGo_eq hx.1 hy.1 xs.length (Nat.le_refl _) (by omega)
    rw [List.take_length, hl, List.take_length, ← hl] at hg
    have e1 : IntKind.i64.wrap (((xs.length : Nat) : Int) - 1) = ((xs.length : Nat) : Int) - 1 := w64 (by omega) (by omega)
    rcases Try.loop139 xs ys hN hl xs.length (Nat.le_refl _) with ⟨k1, k2⟩ | ⟨k1, j, k2⟩
    · rw [← hg, k1]
      exact Try.run139_eq xs ys h (by rw [e1]; exact k2)
    · rw [← hg]
      exact Try.run139_ne xs ys _ j h (by rw [e1]; exact k2)
  · have h : (((xs.length : Nat) : Int) != ((ys.length : Nat) : Int)) = true := by simp; omega
    by_cases hlt : xs.length < ys.length
    · have e : cmpI (valL xs) (valL ys) = -1 := by unfold cmpI; rw [if_pos (canon_lt hx hy hlt)]
      rw [e]
      exact Try.run139_lt xs ys h (by simp; omega)
    · have := canon_lt hy hx (by omega)
      have e : cmpI (valL xs) (valL ys) = 1 := by unfold cmpI; rw [if_neg (by omega), if_pos this]
      rw [e]
      exact Try.run139_gt xs ys h (by simp; omega)

theorem trimL_limbs (n : Nat) : trimL (limbs n) = limbs n := by
  have := trimL_eq (limbs_canon n).1
  rw [this, limbs_val, Int.toNat_natCast]
theorem mag_canon {n : Nat} (hN : (limbs n).length ≤ 1048576) : Runs Try.ir 125 [.sl (limbs n).length (lm (limbs n))] (.fresh 1 (limbs n).length (lm (limbs n))) := by
  have := mag_run hN
  rwa [trimL_limbs] at this

def Try.sh81 (neg : Bool) (m : Nat) : AV :=
  match (((limbs m).length : Nat) : Int) == 0 with
  | true => (.int .i64 0)
  | false => (match neg with
  | true => (.int .i64 (-1))
  | false => (.int .i64 1))
theorem Try.run81 (neg : Bool) (m : Nat) (hN : (limbs m).length ≤ 1048576) : Runs Try.ir 81 [.agg [.bool neg, .sl ((limbs m).length) (lm (limbs m))]] (Try.sh81 neg m) := by
  unfold Try.sh81
  cases c1 : ((((limbs m).length : Nat) : Int) == 0)
  · cases neg
    · exact Runs.script (r := .int .i64 1) (ps := [Runs Try.ir 125 [.sl ((limbs m).length) (lm (limbs m))] (.fresh 1 ((limbs m).length) (lm (limbs m))), ((((limbs m).length : Nat) : Int) == 0) = false, false = false]) TBA_holds rfl 300 rfl [.r (.fresh 1 ((limbs m).length) (lm (limbs m))), .b false, .b false] (by kernel_rfl) ⟨(mag_canon hN), c1, rfl, trivial⟩
    · exact Runs.script (r := .int .i64 (-1)) (ps := [Runs Try.ir 125 [.sl ((limbs m).length) (lm (limbs m))] (.fresh 1 ((limbs m).length) (lm (limbs m))), ((((limbs m).length : Nat) : Int) == 0) = false, true = true]) TBA_holds rfl 300 rfl [.r (.fresh 1 ((limbs m).length) (lm (limbs m))), .b false, .b true] (by kernel_rfl) ⟨(mag_canon hN), c1, rfl, trivial⟩
  · exact Runs.script (r := .int .i64 0) (ps := [Runs Try.ir 125 [.sl ((limbs m).length) (lm (limbs m))] (.fresh 1 ((limbs m).length) (lm (limbs m))), ((((limbs m).length : Nat) : Int) == 0) = true]) TBA_holds rfl 300 rfl [.r (.fresh 1 ((limbs m).length) (lm (limbs m))), .b true] (by kernel_rfl) ⟨(mag_canon hN), c1, trivial⟩
def sgnB (neg : Bool) (m : Nat) : Int := if m = 0 then 0 else if neg then -1 else 1
theorem sign_any {neg : Bool} {m : Nat} (hN : (limbs m).length ≤ 1048576) : Runs Try.ir 81 [.agg [.bool neg, .sl (limbs m).length (lm (limbs m))]] (.int .i64 (sgnB neg m)) := by
  have h := Try.run81 neg m hN
  have e : Try.sh81 neg m = .int .i64 (sgnB neg m) := by
    unfold Try.sh81 sgnB
    have hz : (limbs m).length = 0 ↔ m = 0 := by rw [List.length_eq_zero_iff, limbs_nil]
    by_cases h0 : m = 0
    · have e1 : ((((limbs m).length : Nat) : Int) == 0) = true := by rw [beq_iff_eq]; omega
      rw [e1, if_pos h0]
    · have e1 : ((((limbs m).length : Nat) : Int) == 0) = false := by rw [beq_eq_false_iff_ne]; omega
      rw [e1, if_neg h0]
      cases neg <;> rfl
  rw [← e]; exact h
theorem sgnB_eq (n : Int) : sgnB (decide (n < 0)) n.natAbs = sgnI n := by
  unfold sgnB sgnI
  by_cases h0 : n = 0
  · subst h0; rfl
  · rw [if_neg (by omega)]
    by_cases h1 : n < 0
    · simp [h1]
    · have h2 : 0 < n := by omega
      simp [h1, h2]
theorem sign_run {n : Int} (hN : (limbs n.natAbs).length ≤ 1048576) : Runs Try.ir 81 [bigAV n] (.int .i64 (sgnI n)) := by
  have := sign_any (neg := decide (n < 0)) hN
  rwa [sgnB_eq] at this

def Try.sh135 (na : Bool) (ma : Nat) (nb : Bool) (mb : Nat) : AV :=
  match decide ((sgnB na ma) < (sgnB nb mb)) with
  | true => (.int .i64 (-1))
  | false => (match decide ((sgnB na ma) > (sgnB nb mb)) with
  | true => (.int .i64 1)
  | false => (match decide ((sgnB na ma) < 0) with
  | true => (.int .i64 (IntKind.i64.wrap (0 - (cmpI (valL (limbs ma)) (valL (limbs mb))))))
  | false => (.int .i64 (cmpI (valL (limbs ma)) (valL (limbs mb))))))
theorem Try.run135 (na : Bool) (ma : Nat) (nb : Bool) (mb : Nat) (ha : (limbs ma).length ≤ 1048576) (hb : (limbs mb).length ≤ 1048576) : Runs Try.ir 135 [.agg [.bool na, .sl ((limbs ma).length) (lm (limbs ma))], .agg [.bool nb, .sl ((limbs mb).length) (lm (limbs mb))]] (Try.sh135 na ma nb mb) := by
  unfold Try.sh135
  cases c1 : (decide ((sgnB na ma) < (sgnB nb mb)))
  · cases c2 : (decide ((sgnB na ma) > (sgnB nb mb)))
    · cases c3 : (decide ((sgnB na ma) < 0))
      · exact Runs.script (r := .int .i64 (cmpI (valL (limbs ma)) (valL (limbs mb)))) (ps := [Runs Try.ir 81 [.agg [.bool na, .sl ((limbs ma).length) (lm (limbs ma))]] (.int .i64 (sgnB na ma)), Runs Try.ir 81 [.agg [.bool nb, .sl ((limbs mb).length) (lm (limbs mb))]] (.int .i64 (sgnB nb mb)), (decide ((sgnB na ma) < (sgnB nb mb))) = false, (decide ((sgnB na ma) > (sgnB nb mb))) = false, Runs Try.ir 125 [.sl ((limbs ma).length) (lm (limbs ma))] (.fresh 1 ((limbs ma).length) (lm (limbs ma))), Runs Try.ir 125 [.sl ((limbs mb).length) (lm (limbs mb))] (.fresh 1 ((limbs mb).length) (lm (limbs mb))), Runs Try.ir 139 [.sl ((limbs ma).length) (lm (limbs ma)), .sl ((limbs mb).length) (lm (limbs mb))] (.int .i64 (cmpI (valL (limbs ma)) (valL (limbs mb)))), (decide ((sgnB na ma) < 0)) = false]) TBA_holds rfl 300 rfl [.r (.int .i64 (sgnB na ma)), .r (.int .i64 (sgnB nb mb)), .b false, .b false, .r (.fresh 1 ((limbs ma).length) (lm (limbs ma))), .r (.fresh 1 ((limbs mb).length) (lm (limbs mb))), .r (.int .i64 (cmpI (valL (limbs ma)) (valL (limbs mb)))), .b false] (by kernel_rfl) ⟨(sign_any ha), (sign_any hb), c1, c2, (mag_canon ha), (mag_canon hb), (cmpMag_run (limbs_canon _) (limbs_canon _) ha), c3, trivial⟩
      · exact Runs.script (r := .int .i64 (IntKind.i64.wrap (0 - (cmpI (valL (limbs ma)) (valL (limbs mb)))))) (ps := [Runs Try.ir 81 [.agg [.bool na, .sl ((limbs ma).length) (lm (limbs ma))]] (.int .i64 (sgnB na ma)), Runs Try.ir 81 [.agg [.bool nb, .sl ((limbs mb).length) (lm (limbs mb))]] (.int .i64 (sgnB nb mb)), (decide ((sgnB na ma) < (sgnB nb mb))) = false, (decide ((sgnB na ma) > (sgnB nb mb))) = false, Runs Try.ir 125 [.sl ((limbs ma).length) (lm (limbs ma))] (.fresh 1 ((limbs ma).length) (lm (limbs ma))), Runs Try.ir 125 [.sl ((limbs mb).length) (lm (limbs mb))] (.fresh 1 ((limbs mb).length) (lm (limbs mb))), Runs Try.ir 139 [.sl ((limbs ma).length) (lm (limbs ma)), .sl ((limbs mb).length) (lm (limbs mb))] (.int .i64 (cmpI (valL (limbs ma)) (valL (limbs mb)))), (decide ((sgnB na ma) < 0)) = true]) TBA_holds rfl 300 rfl [.r (.int .i64 (sgnB na ma)), .r (.int .i64 (sgnB nb mb)), .b false, .b false, .r (.fresh 1 ((limbs ma).length) (lm (limbs ma))), .r (.fresh 1 ((limbs mb).length) (lm (limbs mb))), .r (.int .i64 (cmpI (valL (limbs ma)) (valL (limbs mb)))), .b true] (by kernel_rfl) ⟨(sign_any ha), (sign_any hb), c1, c2, (mag_canon ha), (mag_canon hb), (cmpMag_run (limbs_canon _) (limbs_canon _) ha), c3, trivial⟩
    · exact Runs.script (r := .int .i64 1) (ps := [Runs Try.ir 81 [.agg [.bool na, .sl ((limbs ma).length) (lm (limbs ma))]] (.int .i64 (sgnB na ma)), Runs Try.ir 81 [.agg [.bool nb, .sl ((limbs mb).length) (lm (limbs mb))]] (.int .i64 (sgnB nb mb)), (decide ((sgnB na ma) < (sgnB nb mb))) = false, (decide ((sgnB na ma) > (sgnB nb mb))) = true]) TBA_holds rfl 300 rfl [.r (.int .i64 (sgnB na ma)), .r (.int .i64 (sgnB nb mb)), .b false, .b true] (by kernel_rfl) ⟨(sign_any ha), (sign_any hb), c1, c2, trivial⟩
  · exact Runs.script (r := .int .i64 (-1)) (ps := [Runs Try.ir 81 [.agg [.bool na, .sl ((limbs ma).length) (lm (limbs ma))]] (.int .i64 (sgnB na ma)), Runs Try.ir 81 [.agg [.bool nb, .sl ((limbs mb).length) (lm (limbs mb))]] (.int .i64 (sgnB nb mb)), (decide ((sgnB na ma) < (sgnB nb mb))) = true]) TBA_holds rfl 300 rfl [.r (.int .i64 (sgnB na ma)), .r (.int .i64 (sgnB nb mb)), .b true] (by kernel_rfl) ⟨(sign_any ha), (sign_any hb), c1, trivial⟩
theorem cmp_run {a b : Int} (ha : (limbs a.natAbs).length ≤ 1048576) (hb : (limbs b.natAbs).length ≤ 1048576) : Runs Try.ir 135 [bigAV a, bigAV b] (.int .i64 (cmpI a b)) := by
  have h := Try.run135 (decide (a < 0)) a.natAbs (decide (b < 0)) b.natAbs ha hb
  have e : Try.sh135 (decide (a < 0)) a.natAbs (decide (b < 0)) b.natAbs = .int .i64 (cmpI a b) := by
    unfold Try.sh135
    rw [limbs_val, limbs_val, sgnB_eq, sgnB_eq]
    have hr : -1 ≤ cmpI ((a.natAbs : Nat) : Int) ((b.natAbs : Nat) : Int) ∧ cmpI ((a.natAbs : Nat) : Int) ((b.natAbs : Nat) : Int) ≤ 1 := by unfold cmpI; split <;> (try split) <;> omega
    rw [w64 (by omega) (by omega)]
    have sa : (sgnI a = -1 ∧ a < 0) ∨ (sgnI a = 0 ∧ a = 0) ∨ (sgnI a = 1 ∧ 0 < a) := by unfold sgnI; split <;> (try split) <;> omega
    have sb : (sgnI b = -1 ∧ b < 0) ∨ (sgnI b = 0 ∧ b = 0) ∨ (sgnI b = 1 ∧ 0 < b) := by unfold sgnI; split <;> (try split) <;> omega
    rcases sa with ⟨ea, ca⟩ | ⟨ea, ca⟩ | ⟨ea, ca⟩ <;> rcases sb with ⟨eb, cb⟩ | ⟨eb, cb⟩ | ⟨eb, cb⟩ <;> rw [ea, eb] <;> unfold cmpI
    all_goals (simp only [Int.reduceLT, Int.reduceNeg, gt_iff_lt, decide_true, decide_false, Int.lt_irrefl])
    all_goals (congr 1; (repeat' split) <;> omega)
  rw [← e]; exact h

def TBB : Table := TBA
theorem TBB_holds : THolds Try.ir TBB := TBA_holds
end Go.Proofs.Ythnnfemologhfaa
