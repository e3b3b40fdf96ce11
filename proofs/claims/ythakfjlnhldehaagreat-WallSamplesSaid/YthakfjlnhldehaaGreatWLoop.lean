/- vector.Halve and vector.Reduce: their loops. -/
import Derived.Test.YthakfjlnhldehaaGreatVec
namespace Go.Proofs.YthakfjlnhldehaaGreat
open Go.Ai
set_option maxRecDepth 100000

def Tryz.c38 : ICode := .seq (.seq (.region false [o1 7 (.adr 1 1 0),
   o1 8 (.ld 7 1 1 true),
   o1 9 (.adr 1 1 0),
   o1 10 (.ld 9 1 1 true),
   o1 11 (.un .neg (.t 10)),
   o1 12 (.adr 1 1 1),
   o1 13 (.ld 12 1 1 true),
   o1 14 (.adr 1 1 1),
   o1 15 (.ld 14 1 1 true),
   o1 16 (.un .neg (.t 15)),
   o1 17 (.mx [.t 8, .t 11, .t 13, .t 16]),
   o1 18 (.bin .gtr (.t 17) (.c (.int .i64 2097152)))])
  (.cond (.t 18) (.skip)
  (.exit 0)))
  (.block 1 (.region false [o1 19 (.adr 1 1 0),
   o1 20 (.ld 19 1 1 true),
   o1 21 (.bin .quo (.t 20) (.c (.int .i64 2))),
   o1 22 (.adr 1 1 1),
   o1 23 (.ld 22 1 1 true),
   o1 24 (.bin .quo (.t 23) (.c (.int .i64 2))),
   o1 25 (.bld [.int .i64 0, .int .i64 0] [(0, 1, .t 21), (1, 1, .t 24)]),
   oN (.st 1 1 2 (.t 25))]))
def Tryz.s38 (x y : Int) : State := (dds 1 (.box [.int .i64 x, .int .i64 y] :: (.box [.int .i64 0, .int .i64 0] :: (dds 24 []))))
theorem Tryz.k38_1 (x y : Int) (c1 : (decide ((if (IntKind.i64.wrap (0 - y)) > (if y > (if (IntKind.i64.wrap (0 - x)) > x then (IntKind.i64.wrap (0 - x)) else x) then y else (if (IntKind.i64.wrap (0 - x)) > x then (IntKind.i64.wrap (0 - x)) else x)) then (IntKind.i64.wrap (0 - y)) else (if y > (if (IntKind.i64.wrap (0 - x)) > x then (IntKind.i64.wrap (0 - x)) else x) then y else (if (IntKind.i64.wrap (0 - x)) > x then (IntKind.i64.wrap (0 - x)) else x))) > 2097152)) = true) : RunsW Tryz.ir Tryz.c38 (Tryz.s38 x y) .norm (Tryz.s38 (IntKind.i64.wrap (Int.tdiv x 2)) (IntKind.i64.wrap (Int.tdiv y 2))) :=
  RunsW.script (ps := [(decide ((if (IntKind.i64.wrap (0 - y)) > (if y > (if (IntKind.i64.wrap (0 - x)) > x then (IntKind.i64.wrap (0 - x)) else x) then y else (if (IntKind.i64.wrap (0 - x)) > x then (IntKind.i64.wrap (0 - x)) else x)) then (IntKind.i64.wrap (0 - y)) else (if y > (if (IntKind.i64.wrap (0 - x)) > x then (IntKind.i64.wrap (0 - x)) else x) then y else (if (IntKind.i64.wrap (0 - x)) > x then (IntKind.i64.wrap (0 - x)) else x))) > 2097152)) = true, ¬ (2 : Int) = 0, ¬ (2 : Int) = 0]) TVec_holds 300 [.b true] [1, 2] (by kernel_rfl) ⟨c1, (by decide), (by decide), trivial⟩
theorem Tryz.k38_2 (x y : Int) (c1 : (decide ((if (IntKind.i64.wrap (0 - y)) > (if y > (if (IntKind.i64.wrap (0 - x)) > x then (IntKind.i64.wrap (0 - x)) else x) then y else (if (IntKind.i64.wrap (0 - x)) > x then (IntKind.i64.wrap (0 - x)) else x)) then (IntKind.i64.wrap (0 - y)) else (if y > (if (IntKind.i64.wrap (0 - x)) > x then (IntKind.i64.wrap (0 - x)) else x) then y else (if (IntKind.i64.wrap (0 - x)) > x then (IntKind.i64.wrap (0 - x)) else x))) > 2097152)) = false) : RunsW Tryz.ir Tryz.c38 (Tryz.s38 x y) (.exit 0) (Tryz.s38 x y) :=
  RunsW.script (ps := [(decide ((if (IntKind.i64.wrap (0 - y)) > (if y > (if (IntKind.i64.wrap (0 - x)) > x then (IntKind.i64.wrap (0 - x)) else x) then y else (if (IntKind.i64.wrap (0 - x)) > x then (IntKind.i64.wrap (0 - x)) else x)) then (IntKind.i64.wrap (0 - y)) else (if y > (if (IntKind.i64.wrap (0 - x)) > x then (IntKind.i64.wrap (0 - x)) else x) then y else (if (IntKind.i64.wrap (0 - x)) > x then (IntKind.i64.wrap (0 - x)) else x))) > 2097152)) = false]) TVec_holds 300 [.b false] [1, 2] (by kernel_rfl) ⟨c1, trivial⟩

def bigB (x y : Int) : Bool := decide (2097152 < x) || decide (2097152 < -x) || decide (2097152 < y) || decide (2097152 < -y)
def halveGo : Nat → Int → Int → Int × Int
  | 0, x, y => (x, y)
  | k + 1, x, y => if bigB x y then halveGo k (Int.tdiv x 2) (Int.tdiv y 2) else (x, y)
def halveV (x y : Int) : Int × Int := if smallB x y then halveGo 10 x y else (0, 0)

theorem big_cond (x y : Int) (h1 : -1073741824 ≤ x ∧ x ≤ 1073741824) (h2 : -1073741824 ≤ y ∧ y ≤ 1073741824) : decide ((if (IntKind.i64.wrap (0 - y)) > (if y > (if (IntKind.i64.wrap (0 - x)) > x then (IntKind.i64.wrap (0 - x)) else x) then y else (if (IntKind.i64.wrap (0 - x)) > x then (IntKind.i64.wrap (0 - x)) else x)) then (IntKind.i64.wrap (0 - y)) else (if y > (if (IntKind.i64.wrap (0 - x)) > x then (IntKind.i64.wrap (0 - x)) else x) then y else (if (IntKind.i64.wrap (0 - x)) > x then (IntKind.i64.wrap (0 - x)) else x))) > 2097152) = bigB x y := by
  simp only [Int.zero_sub, w64 (n := -x) (by omega) (by omega), w64 (n := -y) (by omega) (by omega), bigB]
  rw [Bool.eq_iff_iff]
  simp only [decide_eq_true_eq, Bool.or_eq_true]
  repeat' split
  all_goals omega

theorem Tryz.loop38 : ∀ (k : Nat) (x y : Int), k ≤ 9 → -(2097152 * 2 ^ k) ≤ x → x ≤ 2097152 * 2 ^ k → -(2097152 * 2 ^ k) ≤ y → y ≤ 2097152 * 2 ^ k →
    ∀ j, k ≤ j → RunsW Tryz.ir (.loop Tryz.c38) (Tryz.s38 x y) (.exit 0) (Tryz.s38 (halveGo j x y).1 (halveGo j x y).2) := by
  intro k
  induction k with
  | zero =>
    intro x y _ h1 h2 h3 h4 j _
    simp only [Int.pow_zero, Int.mul_one] at h1 h2 h3 h4
    have hb : bigB x y = false := by simp [bigB]; omega
    have hg : halveGo j x y = (x, y) := by
      cases j with
      | zero => rfl
      | succ j => simp only [halveGo, hb]; rfl
    rw [hg]
    exact RunsW.loop_out (Tryz.k38_2 x y ((big_cond x y (by omega) (by omega)).trans hb)) (by intro e; cases e)
  | succ k ih =>
    intro x y hk h1 h2 h3 h4 j hj
    have hp : (2 : Int) ^ (k + 1) = 2 ^ k * 2 := Int.pow_succ ..
    have hle : (2 : Int) ^ k ≤ 256 := by
      have : k ≤ 8 := by omega
      have h9 : k = 0 ∨ k = 1 ∨ k = 2 ∨ k = 3 ∨ k = 4 ∨ k = 5 ∨ k = 6 ∨ k = 7 ∨ k = 8 := by omega
      rcases h9 with rfl | rfl | rfl | rfl | rfl | rfl | rfl | rfl | rfl <;> decide
    have hpos : (0 : Int) < 2 ^ k := Int.pow_pos (by omega)
    rw [hp] at h1 h2 h3 h4
    generalize (2 : Int) ^ k = p at *
    have hx : -1073741824 ≤ x ∧ x ≤ 1073741824 := by omega
    have hy : -1073741824 ≤ y ∧ y ≤ 1073741824 := by omega
    cases hb : bigB x y
    · have hg : halveGo j x y = (x, y) := by
        cases j with
        | zero => rfl
        | succ j => simp only [halveGo, hb]; rfl
      rw [hg]
      exact RunsW.loop_out (Tryz.k38_2 x y ((big_cond x y hx hy).trans hb)) (by intro e; cases e)
    · obtain ⟨j, rfl⟩ : ∃ j', j = j' + 1 := ⟨j - 1, by omega⟩
      have hg : halveGo (j + 1) x y = halveGo j (Int.tdiv x 2) (Int.tdiv y 2) := by simp only [halveGo, hb]; rfl
      rw [hg]
      have h5 := Tryz.k38_1 x y ((big_cond x y hx hy).trans hb)
      have tx : -(2097152 * p) ≤ Int.tdiv x 2 ∧ Int.tdiv x 2 ≤ 2097152 * p := by
        rcases Int.le_total 0 x with h | h
        · rw [Int.tdiv_eq_ediv_of_nonneg h]; omega
        · have := Int.neg_tdiv (a := x) (b := 2)
          have e : Int.tdiv x 2 = -((-x) / 2) := by rw [← Int.tdiv_eq_ediv_of_nonneg (by omega : 0 ≤ -x), this]; omega
          rw [e]; omega
      have ty : -(2097152 * p) ≤ Int.tdiv y 2 ∧ Int.tdiv y 2 ≤ 2097152 * p := by
        rcases Int.le_total 0 y with h | h
        · rw [Int.tdiv_eq_ediv_of_nonneg h]; omega
        · have := Int.neg_tdiv (a := y) (b := 2)
          have e : Int.tdiv y 2 = -((-y) / 2) := by rw [← Int.tdiv_eq_ediv_of_nonneg (by omega : 0 ≤ -y), this]; omega
          rw [e]; omega
      rw [w64 (n := Int.tdiv x 2) (by omega) (by omega), w64 (n := Int.tdiv y 2) (by omega) (by omega)] at h5
      exact RunsW.loop h5 (ih _ _ (by omega) tx.1 tx.2 ty.1 ty.2 j (by omega))

theorem Tryz.run38_no (x y : Int) (h : smallB x y = false) : Runs Tryz.ir 38 [.agg [.int .i64 x, .int .i64 y]] (.agg [.int .i64 0, .int .i64 0]) :=
  Runs.script (ps := [(!(smallB x y)) = true]) TVec_holds rfl 300 rfl [.b true] (by kernel_rfl) ⟨(by rw [h]; rfl), trivial⟩
theorem Tryz.run38_yes (x y : Int) (h : smallB x y = true) : Runs Tryz.ir 38 [.agg [.int .i64 x, .int .i64 y]] (.agg [.int .i64 (halveGo 10 x y).1, .int .i64 (halveGo 10 x y).2]) := by
  have g := smallB_yes h
  have hl := Tryz.loop38 9 x y (by omega) (by simp; omega) (by simp; omega) (by simp; omega) (by simp; omega) 10 (by omega)
  exact Runs.of_bodyW (fn := Tryz.i38) (s := (dds 1 (.box [.int .i64 ((halveGo 10 x y).1), .int .i64 ((halveGo 10 x y).2)] :: (.box [.int .i64 ((halveGo 10 x y).1), .int .i64 ((halveGo 10 x y).2)] :: (dds 23 (.val (.agg [.int .i64 ((halveGo 10 x y).1), .int .i64 ((halveGo 10 x y).2)]) :: [])))))) (ex := .ret) rfl rfl
    (RunsW.seq (RunsW.script (t := (.val (.agg [.int .i64 x, .int .i64 y]) :: (.box [.int .i64 x, .int .i64 y] :: (.box [.int .i64 0, .int .i64 0] :: (dds 24 []))))) (ex := .norm) (ps := []) TVec_holds 300 [] [0, 1, 2] (by kernel_rfl) trivial)
    (RunsW.seq (RunsW.script (t := (dds 1 (.box [.int .i64 x, .int .i64 y] :: (.box [.int .i64 0, .int .i64 0] :: (dds 24 []))))) (ex := .norm) (ps := [(!(smallB x y)) = false]) TVec_holds 300 [.b false] [1, 2] (by kernel_rfl) ⟨(by rw [h]; rfl), trivial⟩)
    (RunsW.seq (RunsW.block hl)
    (RunsW.script (t := (dds 1 (.box [.int .i64 ((halveGo 10 x y).1), .int .i64 ((halveGo 10 x y).2)] :: (.box [.int .i64 ((halveGo 10 x y).1), .int .i64 ((halveGo 10 x y).2)] :: (dds 23 (.val (.agg [.int .i64 ((halveGo 10 x y).1), .int .i64 ((halveGo 10 x y).2)]) :: [])))))) (ex := .ret) (ps := []) TVec_holds 300 [] [1, 2, 26] (by kernel_rfl) trivial)))) (by intro i e; cases e) rfl
theorem Tryz.run38 (x y : Int) : Runs Tryz.ir 38 [.agg [.int .i64 x, .int .i64 y]] (.agg [.int .i64 (halveV x y).1, .int .i64 (halveV x y).2]) := by
  unfold halveV
  cases h : smallB x y
  · exact Tryz.run38_no x y h
  · exact Tryz.run38_yes x y h

def g38 : List AV → Option (AV × List Prop)
  | [.agg [.int .i64 x, .int .i64 y]] => some (.agg [.int .i64 (halveV x y).1, .int .i64 (halveV x y).2], [])
  | _ => none
def TL1 : Table := (38, g38) :: TVec
theorem TL1_holds : THolds Tryz.ir TL1 := THolds.cons TVec_holds (by
  intro args r ps h hp
  unfold g38 at h
  split at h
  · cases h; exact Tryz.run38 _ _
  · cases h)

def Tryz.c42 : ICode := .seq (.seq (.region false [oM 26 4,
   o1 27 (.bin .gtr (.t 26) (.c (.int .i64 0)))])
  (.cond (.t 27) (.skip)
  (.exit 0)))
  (.block 1 (.region true [oM 28 4,
   oM 29 3,
   oM 30 4,
   oB 31 .rem 29 30,
   oM 3 28,
   oM 4 31]))
def Tryz.s42 (x y g h : Int) : State := (dds 1 (.box [.int .i64 x, .int .i64 y] :: (.box [.int .i64 0, .int .i64 0] :: (.val (.int .i64 g) :: (.val (.int .i64 h) :: (dds 36 []))))))
theorem Tryz.k42_1 (x y g h : Int) (c1 : (decide (h > 0)) = true) (n1 : ¬ h = 0) : RunsW Tryz.ir Tryz.c42 (Tryz.s42 x y g h) .norm (Tryz.s42 x y h (Int.tmod g h)) :=
  RunsW.script (ps := [(decide (h > 0)) = true, ¬ h = 0]) TVec_holds 300 [.b true] [1, 2, 3, 4] (by kernel_rfl) ⟨c1, n1, trivial⟩
theorem Tryz.k42_2 (x y g h : Int) (c1 : (decide (h > 0)) = false) : RunsW Tryz.ir Tryz.c42 (Tryz.s42 x y g h) (.exit 0) (Tryz.s42 x y g h) :=
  RunsW.script (ps := [(decide (h > 0)) = false]) TVec_holds 300 [.b false] [1, 2, 3, 4] (by kernel_rfl) ⟨c1, trivial⟩

theorem Tryz.loop42 (x y : Int) : ∀ (h g : Nat), RunsW Tryz.ir (.loop Tryz.c42) (Tryz.s42 x y g h) (.exit 0) (Tryz.s42 x y ((Nat.gcd g h : Nat) : Int) 0) := by
  intro h
  induction h using Nat.strongRecOn with
  | _ h ih =>
    intro g
    cases h with
    | zero =>
      rw [Nat.gcd_zero_right]
      exact RunsW.loop_out (Tryz.k42_2 x y g 0 (by simp)) (by intro e; cases e)
    | succ h =>
      have h1 := Tryz.k42_1 x y g ((h + 1 : Nat) : Int) (by simp) (by omega)
      have e : Int.tmod (g : Int) ((h + 1 : Nat) : Int) = ((g % (h + 1) : Nat) : Int) := by
        rw [Int.tmod_eq_emod_of_nonneg (by omega), Int.natCast_emod]
      rw [e] at h1
      have h2 := ih (g % (h + 1)) (Nat.mod_lt _ (by omega)) (h + 1)
      have e2 : Nat.gcd (h + 1) (g % (h + 1)) = Nat.gcd g (h + 1) := by
        rw [Nat.gcd_comm g (h + 1), Nat.gcd_rec (h + 1) g, Nat.gcd_comm]
      rw [e2] at h2
      exact RunsW.loop h1 h2

theorem abs_max {x : Int} (h : -1073741824 ≤ x ∧ x ≤ 1073741824) : (if (IntKind.i64.wrap (0 - x)) > x then (IntKind.i64.wrap (0 - x)) else x) = ((x.natAbs : Nat) : Int) := by
  rw [w64 (n := 0 - x) (by omega) (by omega)]
  split <;> omega
def reduceV (x y : Int) : Int × Int := if smallB x y && !(x == 0 && y == 0) then (Int.tdiv x ((Nat.gcd x.natAbs y.natAbs : Nat) : Int), Int.tdiv y ((Nat.gcd x.natAbs y.natAbs : Nat) : Int)) else (0, 0)
theorem tdiv_small {x d : Int} (hd : 0 < d) (h : -1073741824 ≤ x ∧ x ≤ 1073741824) : -1073741824 ≤ Int.tdiv x d ∧ Int.tdiv x d ≤ 1073741824 := by
  rcases Int.le_total 0 x with g | g
  · rw [Int.tdiv_eq_ediv_of_nonneg g]
    have h1 := Int.ediv_nonneg g (Int.le_of_lt hd)
    have h2 := Int.ediv_le_self d g
    omega
  · have e : x = -(-x) := by omega
    rw [e, Int.neg_tdiv, Int.tdiv_eq_ediv_of_nonneg (show 0 ≤ -x by omega)]
    have h1 := Int.ediv_nonneg (show 0 ≤ -x by omega) (Int.le_of_lt hd)
    have h2 := Int.ediv_le_self d (show 0 ≤ -x by omega)
    omega

theorem Tryz.run42_no (x y : Int) (h : smallB x y = false) : Runs Tryz.ir 42 [.agg [.int .i64 x, .int .i64 y]] (.agg [.int .i64 0, .int .i64 0]) :=
  Runs.script (ps := [(!(smallB x y)) = true, true = true]) TVec_holds rfl 300 rfl [.b true, .b true] (by kernel_rfl) ⟨(by rw [h]; rfl), rfl, trivial⟩
theorem Tryz.run42_zz (x y : Int) (h : smallB x y = true) (h0 : (x == 0 && (y == 0 && true)) = true) : Runs Tryz.ir 42 [.agg [.int .i64 x, .int .i64 y]] (.agg [.int .i64 0, .int .i64 0]) :=
  Runs.script (ps := [(!(smallB x y)) = false, (x == 0 && (y == 0 && true)) = true]) TVec_holds rfl 300 rfl [.b false, .b true] (by kernel_rfl) ⟨(by rw [h]; rfl), h0, trivial⟩
theorem Tryz.run42_yes (x y : Int) (h : smallB x y = true) (h0 : (x == 0 && (y == 0 && true)) = false) (hnz : ¬ ((Nat.gcd x.natAbs y.natAbs : Nat) : Int) = 0) : Runs Tryz.ir 42 [.agg [.int .i64 x, .int .i64 y]] (.agg [.int .i64 (IntKind.i64.wrap (Int.tdiv x ((Nat.gcd x.natAbs y.natAbs : Nat) : Int))), .int .i64 (IntKind.i64.wrap (Int.tdiv y ((Nat.gcd x.natAbs y.natAbs : Nat) : Int)))]) := by
  have g := smallB_yes h
  have hl : RunsW Tryz.ir (.loop Tryz.c42) (Tryz.s42 x y (if (IntKind.i64.wrap (0 - x)) > x then (IntKind.i64.wrap (0 - x)) else x) (if (IntKind.i64.wrap (0 - y)) > y then (IntKind.i64.wrap (0 - y)) else y)) (.exit 0) (Tryz.s42 x y ((Nat.gcd x.natAbs y.natAbs : Nat) : Int) 0) := by
    rw [abs_max (x := x) (by omega), abs_max (x := y) (by omega)]
    exact Tryz.loop42 x y _ _
  exact Runs.of_bodyW (fn := Tryz.i42) (s := (dds 1 (.box [.int .i64 x, .int .i64 y] :: (.box [.int .i64 (IntKind.i64.wrap (Int.tdiv x ((Nat.gcd x.natAbs y.natAbs : Nat) : Int))), .int .i64 (IntKind.i64.wrap (Int.tdiv y ((Nat.gcd x.natAbs y.natAbs : Nat) : Int)))] :: (.val (.int .i64 ((Nat.gcd x.natAbs y.natAbs : Nat) : Int)) :: (.val (.int .i64 0) :: (dds 27 (.ptr 1 0 :: (.val (.int .i64 x) :: (.val (.int .i64 ((Nat.gcd x.natAbs y.natAbs : Nat) : Int)) :: (.val (.int .i64 (IntKind.i64.wrap (Int.tdiv x ((Nat.gcd x.natAbs y.natAbs : Nat) : Int)))) :: (.ptr 1 1 :: (.val (.int .i64 y) :: (.val (.int .i64 ((Nat.gcd x.natAbs y.natAbs : Nat) : Int)) :: (.val (.int .i64 (IntKind.i64.wrap (Int.tdiv y ((Nat.gcd x.natAbs y.natAbs : Nat) : Int)))) :: (.val (.agg [.int .i64 (IntKind.i64.wrap (Int.tdiv x ((Nat.gcd x.natAbs y.natAbs : Nat) : Int))), .int .i64 (IntKind.i64.wrap (Int.tdiv y ((Nat.gcd x.natAbs y.natAbs : Nat) : Int)))]) :: [])))))))))))))))) (ex := .ret) rfl rfl
    (RunsW.seq (RunsW.script (t := (.val (.agg [.int .i64 x, .int .i64 y]) :: (.box [.int .i64 x, .int .i64 y] :: (.box [.int .i64 0, .int .i64 0] :: (dds 38 []))))) (ex := .norm) (ps := []) TVec_holds 300 [] [0, 1, 2] (by kernel_rfl) trivial)
    (RunsW.seq (RunsW.script (t := (.val (.agg [.int .i64 x, .int .i64 y]) :: (.box [.int .i64 x, .int .i64 y] :: (.box [.int .i64 0, .int .i64 0] :: (dds 2 (.val (.agg [.int .i64 x, .int .i64 y]) :: (.val (.bool (smallB x y)) :: (.val (.bool (!(smallB x y))) :: (.val (.bool (!(smallB x y))) :: (.val (.agg [.int .i64 x, .int .i64 y]) :: (.val (.agg [.int .i64 0, .int .i64 0]) :: (.val (.bool (x == 0 && (y == 0 && true))) :: (.val (.bool (x == 0 && (y == 0 && true))) :: (dds 28 [])))))))))))))) (ex := .norm) (ps := [(!(smallB x y)) = false, (x == 0 && (y == 0 && true)) = false]) TVec_holds 300 [.b false, .b false] [0, 1, 2, 5, 6, 7, 8, 9, 10, 11, 12] (by kernel_rfl) ⟨(by rw [h]; rfl), h0, trivial⟩)
    (RunsW.seq (RunsW.script (t := (dds 1 (.box [.int .i64 x, .int .i64 y] :: (.box [.int .i64 0, .int .i64 0] :: (.val (.int .i64 (if (IntKind.i64.wrap (0 - x)) > x then (IntKind.i64.wrap (0 - x)) else x)) :: (.val (.int .i64 (if (IntKind.i64.wrap (0 - y)) > y then (IntKind.i64.wrap (0 - y)) else y)) :: (dds 36 []))))))) (ex := .norm) (ps := []) TVec_holds 300 [] [1, 2, 3, 4] (by kernel_rfl) trivial)
    (RunsW.seq (RunsW.block hl)
    (RunsW.script (t := (dds 1 (.box [.int .i64 x, .int .i64 y] :: (.box [.int .i64 (IntKind.i64.wrap (Int.tdiv x ((Nat.gcd x.natAbs y.natAbs : Nat) : Int))), .int .i64 (IntKind.i64.wrap (Int.tdiv y ((Nat.gcd x.natAbs y.natAbs : Nat) : Int)))] :: (.val (.int .i64 ((Nat.gcd x.natAbs y.natAbs : Nat) : Int)) :: (.val (.int .i64 0) :: (dds 27 (.ptr 1 0 :: (.val (.int .i64 x) :: (.val (.int .i64 ((Nat.gcd x.natAbs y.natAbs : Nat) : Int)) :: (.val (.int .i64 (IntKind.i64.wrap (Int.tdiv x ((Nat.gcd x.natAbs y.natAbs : Nat) : Int)))) :: (.ptr 1 1 :: (.val (.int .i64 y) :: (.val (.int .i64 ((Nat.gcd x.natAbs y.natAbs : Nat) : Int)) :: (.val (.int .i64 (IntKind.i64.wrap (Int.tdiv y ((Nat.gcd x.natAbs y.natAbs : Nat) : Int)))) :: (.val (.agg [.int .i64 (IntKind.i64.wrap (Int.tdiv x ((Nat.gcd x.natAbs y.natAbs : Nat) : Int))), .int .i64 (IntKind.i64.wrap (Int.tdiv y ((Nat.gcd x.natAbs y.natAbs : Nat) : Int)))]) :: [])))))))))))))))) (ex := .ret) (ps := [¬ ((Nat.gcd x.natAbs y.natAbs : Nat) : Int) = 0, ¬ ((Nat.gcd x.natAbs y.natAbs : Nat) : Int) = 0]) TVec_holds 300 [] [1, 2, 3, 4, 32, 33, 34, 35, 36, 37, 38, 39, 40] (by kernel_rfl) ⟨hnz, hnz, trivial⟩))))) (by intro i e; cases e) rfl
theorem Tryz.run42 (x y : Int) : Runs Tryz.ir 42 [.agg [.int .i64 x, .int .i64 y]] (.agg [.int .i64 (reduceV x y).1, .int .i64 (reduceV x y).2]) := by
  unfold reduceV
  cases h : smallB x y
  · exact Tryz.run42_no x y h
  by_cases h0 : x = 0 ∧ y = 0
  · obtain ⟨rfl, rfl⟩ := h0
    exact Tryz.run42_zz 0 0 h rfl
  · have g := smallB_yes h
    have e1 : (x == 0 && (y == 0 && true)) = false := by simp; omega
    have e2 : (x == 0 && y == 0) = false := by simp; omega
    have hpos : 0 < Nat.gcd x.natAbs y.natAbs := by
      rcases Nat.eq_zero_or_pos (Nat.gcd x.natAbs y.natAbs) with hz | hz
      · have := Nat.eq_zero_of_gcd_eq_zero_left hz
        have := Nat.eq_zero_of_gcd_eq_zero_right hz
        omega
      · exact hz
    have := Tryz.run42_yes x y h e1 (by omega)
    have b1 := tdiv_small (x := x) (d := ((Nat.gcd x.natAbs y.natAbs : Nat) : Int)) (by omega) (by omega)
    have b2 := tdiv_small (x := y) (d := ((Nat.gcd x.natAbs y.natAbs : Nat) : Int)) (by omega) (by omega)
    rw [w64 (by omega) (by omega), w64 (by omega) (by omega)] at this
    rw [e2]
    exact this

def g42 : List AV → Option (AV × List Prop)
  | [.agg [.int .i64 x, .int .i64 y]] => some (.agg [.int .i64 (reduceV x y).1, .int .i64 (reduceV x y).2], [])
  | _ => none
def TL2 : Table := (42, g42) :: TL1
theorem TL2_holds : THolds Tryz.ir TL2 := THolds.cons TL1_holds (by
  intro args r ps h hp
  unfold g42 at h
  split at h
  · cases h; exact Tryz.run42 _ _
  · cases h)

def TLoop : Table := TL2
theorem TLoop_holds : THolds Tryz.ir TLoop := TL2_holds
end Go.Proofs.YthakfjlnhldehaaGreat
