/- vector.Root and vector.Halve: their loops. -/
import Derived.Test.YthakfjlnhldehaaVec
namespace Go.Proofs.Ythakfjlnhldehaa
open Go.Ai
set_option maxRecDepth 100000

def Try.c44 : ICode := .seq (.seq (.region false [oM 8 4,
   o1 9 (.bin .gtr (.t 8) (.c (.int .i64 0)))])
  (.cond (.t 9) (.skip)
  (.exit 0)))
  (.seq (.block 1 (.seq (.region false [oM 12 3,
   oM 13 4,
   oB 14 .or 12 13,
   oM 5 14])
  (.seq (.region false [oM 15 5,
   oM 16 0,
   oM 17 5,
   oB 18 .quo 16 17,
   oB 19 .leq 15 18])
  (.cond (.t 19) (.region false [oM 20 5,
   oM 3 20])
  (.skip)))))
  (.region false [oM 10 4,
   o1 11 (.bin .shr (.t 10) (.c (.int .u64 1))),
   oM 4 11]))
def Try.s44 (n r b : Int) : State := (.val (.int .i64 n) :: (dds 2 (.val (.int .i64 r) :: (.val (.int .i64 b) :: (dds 17 [])))))
theorem Try.k44_1 (n r b : Int) (c1 : (decide (b > 0)) = true) (c2 : (decide ((IntKind.i64.wrap ((BitVec.ofInt (IntKind.bits .i64) r ||| BitVec.ofInt (IntKind.bits .i64) b).toNat)) ≤ (IntKind.i64.wrap (Int.tdiv n (IntKind.i64.wrap ((BitVec.ofInt (IntKind.bits .i64) r ||| BitVec.ofInt (IntKind.bits .i64) b).toNat)))))) = true) (n1 : ¬ (IntKind.i64.wrap ((BitVec.ofInt (IntKind.bits .i64) r ||| BitVec.ofInt (IntKind.bits .i64) b).toNat)) = 0) : RunsW Try.ir Try.c44 (Try.s44 n r b) .norm (Try.s44 n (IntKind.i64.wrap ((BitVec.ofInt (IntKind.bits .i64) r ||| BitVec.ofInt (IntKind.bits .i64) b).toNat)) (Int.fdiv b (2 ^ (min (Int.toNat 1) (IntKind.bits .i64))))) :=
  RunsW.script (ps := [(decide (b > 0)) = true, ¬ (IntKind.i64.wrap ((BitVec.ofInt (IntKind.bits .i64) r ||| BitVec.ofInt (IntKind.bits .i64) b).toNat)) = 0, (decide ((IntKind.i64.wrap ((BitVec.ofInt (IntKind.bits .i64) r ||| BitVec.ofInt (IntKind.bits .i64) b).toNat)) ≤ (IntKind.i64.wrap (Int.tdiv n (IntKind.i64.wrap ((BitVec.ofInt (IntKind.bits .i64) r ||| BitVec.ofInt (IntKind.bits .i64) b).toNat)))))) = true, ¬ (1 : Int) < 0]) TVec_holds 300 [.b true, .b true] [0, 3, 4] (by kernel_rfl) ⟨c1, n1, c2, (by decide), trivial⟩
theorem Try.k44_2 (n r b : Int) (c1 : (decide (b > 0)) = true) (c2 : (decide ((IntKind.i64.wrap ((BitVec.ofInt (IntKind.bits .i64) r ||| BitVec.ofInt (IntKind.bits .i64) b).toNat)) ≤ (IntKind.i64.wrap (Int.tdiv n (IntKind.i64.wrap ((BitVec.ofInt (IntKind.bits .i64) r ||| BitVec.ofInt (IntKind.bits .i64) b).toNat)))))) = false) (n1 : ¬ (IntKind.i64.wrap ((BitVec.ofInt (IntKind.bits .i64) r ||| BitVec.ofInt (IntKind.bits .i64) b).toNat)) = 0) : RunsW Try.ir Try.c44 (Try.s44 n r b) .norm (Try.s44 n r (Int.fdiv b (2 ^ (min (Int.toNat 1) (IntKind.bits .i64))))) :=
  RunsW.script (ps := [(decide (b > 0)) = true, ¬ (IntKind.i64.wrap ((BitVec.ofInt (IntKind.bits .i64) r ||| BitVec.ofInt (IntKind.bits .i64) b).toNat)) = 0, (decide ((IntKind.i64.wrap ((BitVec.ofInt (IntKind.bits .i64) r ||| BitVec.ofInt (IntKind.bits .i64) b).toNat)) ≤ (IntKind.i64.wrap (Int.tdiv n (IntKind.i64.wrap ((BitVec.ofInt (IntKind.bits .i64) r ||| BitVec.ofInt (IntKind.bits .i64) b).toNat)))))) = false, ¬ (1 : Int) < 0]) TVec_holds 300 [.b true, .b false] [0, 3, 4] (by kernel_rfl) ⟨c1, n1, c2, (by decide), trivial⟩
theorem Try.k44_3 (n r b : Int) (c1 : (decide (b > 0)) = false) : RunsW Try.ir Try.c44 (Try.s44 n r b) (.exit 0) (Try.s44 n r b) :=
  RunsW.script (ps := [(decide (b > 0)) = false]) TVec_holds 300 [.b false] [0, 3, 4] (by kernel_rfl) ⟨c1, trivial⟩

def rootGo (n : Nat) : Nat → Nat → Nat
  | 0, r => r
  | k + 1, r => rootGo n k (if r + 2 ^ k ≤ n / (r + 2 ^ k) then r + 2 ^ k else r)
def rootI (n : Int) : Int := if n ≤ 0 then 0 else rootGo n.toNat 32 0
def bk : Nat → Int
  | 0 => 0
  | k + 1 => ((2 ^ k : Nat) : Int)

theorem or_pow (k q : Nat) (h : 2 ^ (k + 1) * q + 2 ^ k < 9223372036854775808) :
    IntKind.i64.wrap ((BitVec.ofInt (IntKind.bits .i64) ((2 ^ (k + 1) * q : Nat) : Int) ||| BitVec.ofInt (IntKind.bits .i64) ((2 ^ k : Nat) : Int)).toNat) = ((2 ^ (k + 1) * q + 2 ^ k : Nat) : Int) := by
  show IntKind.i64.wrap ((BitVec.ofInt 64 ((2 ^ (k + 1) * q : Nat) : Int) ||| BitVec.ofInt 64 ((2 ^ k : Nat) : Int)).toNat : Int) = _
  have hk : 2 ^ k < 2 ^ (k + 1) := Nat.pow_lt_pow_right (by omega) (by omega)
  rw [BitVec.toNat_or, BitVec.ofInt_natCast, BitVec.ofInt_natCast, BitVec.toNat_ofNat, BitVec.toNat_ofNat, Nat.mod_eq_of_lt (by omega), Nat.mod_eq_of_lt (by omega), ← Nat.two_pow_add_eq_or_of_lt hk]
  exact w64 (by omega) (by omega)

theorem fdiv_bk (k : Nat) : Int.fdiv ((2 ^ k : Nat) : Int) (2 ^ (min (Int.toNat 1) (IntKind.bits .i64))) = bk k := by
  show Int.fdiv ((2 ^ k : Nat) : Int) 2 = bk k
  rw [Int.fdiv_eq_ediv_of_nonneg _ (by omega)]
  cases k with
  | zero => rfl
  | succ k => show ((2 ^ (k + 1) : Nat) : Int) / 2 = ((2 ^ k : Nat) : Int); rw [Nat.pow_succ]; omega

theorem div_nat (n X : Nat) (hn : n < 9223372036854775808) : IntKind.i64.wrap (Int.tdiv (n : Int) (X : Int)) = ((n / X : Nat) : Int) := by
  rw [Int.tdiv_eq_ediv_of_nonneg (by omega), ← Int.natCast_ediv]
  have := Nat.div_le_self n X
  generalize n / X = d at *
  exact w64 (by omega) (by omega)

theorem Try.loop44 (n : Nat) (hn : n < 9223372036854775808) : ∀ (k q : Nat), k ≤ 32 → 2 ^ k * q + 2 ^ k ≤ 4294967296 → RunsW Try.ir (.loop Try.c44) (Try.s44 n ((2 ^ k * q : Nat) : Int) (bk k)) (.exit 0) (Try.s44 n (rootGo n k (2 ^ k * q) : Nat) 0) := by
  intro k
  induction k with
  | zero =>
    intro q _ _
    refine RunsW.loop_out (Try.k44_3 _ _ _ ?_) (by intro e; cases e)
    rfl
  | succ k ih =>
    intro q hk hq
    have hpos : 0 < 2 ^ k := Nat.two_pow_pos k
    have e1 : 2 ^ (k + 1) * q = 2 ^ k * (2 * q) := by rw [Nat.pow_succ, Nat.mul_assoc]
    have e2 : 2 ^ (k + 1) * q + 2 ^ k = 2 ^ k * (2 * q + 1) := by rw [e1, Nat.mul_add, Nat.mul_one]
    have e3 : 2 ^ (k + 1) = 2 ^ k + 2 ^ k := by rw [Nat.pow_succ]; omega
    have hor := or_pow k q (by omega)
    have hb : decide (((2 ^ k : Nat) : Int) > 0) = true := decide_eq_true (Int.natCast_pos.2 hpos)
    have hx0 : 0 < 2 ^ (k + 1) * q + 2 ^ k := by omega
    have hgo : rootGo n (k + 1) (2 ^ (k + 1) * q) = rootGo n k (if 2 ^ (k + 1) * q + 2 ^ k ≤ n / (2 ^ (k + 1) * q + 2 ^ k) then 2 ^ (k + 1) * q + 2 ^ k else 2 ^ (k + 1) * q) := rfl
    rw [hgo]
    have hdiv := div_nat n (2 ^ (k + 1) * q + 2 ^ k) hn
    by_cases hc : 2 ^ (k + 1) * q + 2 ^ k ≤ n / (2 ^ (k + 1) * q + 2 ^ k)
    · have h1 := Try.k44_1 n ((2 ^ (k + 1) * q : Nat) : Int) ((2 ^ k : Nat) : Int) hb (by rw [hor, hdiv]; exact decide_eq_true (Int.ofNat_le.2 hc)) (by rw [hor]; exact fun e => Nat.ne_of_gt hx0 (Int.ofNat.inj e))
      rw [hor, fdiv_bk, e2] at h1
      refine RunsW.loop h1 ?_
      rw [if_pos hc, e2]
      exact ih (2 * q + 1) (by omega) (by rw [← e2]; omega)
    · have h1 := Try.k44_2 n ((2 ^ (k + 1) * q : Nat) : Int) ((2 ^ k : Nat) : Int) hb (by rw [hor, hdiv]; exact decide_eq_false (fun h => hc (Int.ofNat_le.1 h))) (by rw [hor]; exact fun e => Nat.ne_of_gt hx0 (Int.ofNat.inj e))
      rw [fdiv_bk] at h1
      refine RunsW.loop h1 ?_
      rw [if_neg hc, e1]
      exact ih (2 * q) (by omega) (by rw [← e1]; omega)

theorem Try.run44_no (n : Int) (h : decide (n ≤ 0) = true) : Runs Try.ir 44 [.int .i64 n] (.int .i64 0) :=
  Runs.script (ps := [(decide (n ≤ 0)) = true]) TVec_holds rfl 300 rfl [.b true] (by kernel_rfl) ⟨h, trivial⟩
theorem Try.run44_yes (n : Int) (h : decide (n ≤ 0) = false) (hn : n ≤ 9223372036854775807) : Runs Try.ir 44 [.int .i64 n] (.int .i64 ((rootGo n.toNat 32 0 : Nat) : Int)) := by
  have hpos : 0 < n := by simpa using h
  have hl0 := Try.loop44 n.toNat (by omega) 32 0 (Nat.le_refl _) (by decide)
  have hl : RunsW Try.ir (.loop Try.c44) (Try.s44 n 0 2147483648) (.exit 0) (Try.s44 n ((rootGo n.toNat 32 0 : Nat) : Int) 0) := by
    have e : ((n.toNat : Nat) : Int) = n := by omega
    rw [e] at hl0
    exact hl0
  exact Runs.of_bodyW (fn := Try.i44) (s := (.val (.int .i64 n) :: (dds 1 (.val (.int .i64 ((rootGo n.toNat 32 0 : Nat) : Int)) :: (.val (.int .i64 ((rootGo n.toNat 32 0 : Nat) : Int)) :: (.val (.int .i64 0) :: (dds 16 (.val (.int .i64 ((rootGo n.toNat 32 0 : Nat) : Int)) :: [])))))))) (ex := .ret) rfl rfl
    (RunsW.seq (RunsW.script (t := (.val (.int .i64 n) :: (dds 1 (.val (.int .i64 0) :: (dds 19 []))))) (ex := .norm) (ps := []) TVec_holds 300 [] [0, 2] (by kernel_rfl) trivial)
    (RunsW.seq (RunsW.script (t := (.val (.int .i64 n) :: (dds 1 (.val (.int .i64 0) :: (dds 3 (.val (.int .i64 n) :: (.val (.bool (decide (n ≤ 0))) :: (dds 14 [])))))))) (ex := .norm) (ps := [(decide (n ≤ 0)) = false]) TVec_holds 300 [.b false] [0, 2, 6, 7] (by kernel_rfl) ⟨h, trivial⟩)
    (RunsW.seq (RunsW.script (t := (.val (.int .i64 n) :: (dds 1 (.val (.int .i64 0) :: (.val (.int .i64 0) :: (dds 2 (.val (.int .i64 n) :: (.val (.bool (decide (n ≤ 0))) :: (dds 14 []))))))))) (ex := .norm) (ps := []) TVec_holds 300 [] [0, 2, 3, 6, 7] (by kernel_rfl) trivial)
    (RunsW.seq (RunsW.seq (RunsW.script (t := (.val (.int .i64 n) :: (dds 2 (.val (.int .i64 0) :: (.val (.int .i64 2147483648) :: (dds 17 [])))))) (ex := .norm) (ps := []) TVec_holds 300 [] [0, 3, 4] (by kernel_rfl) trivial)
    (RunsW.block hl))
    (RunsW.script (t := (.val (.int .i64 n) :: (dds 1 (.val (.int .i64 ((rootGo n.toNat 32 0 : Nat) : Int)) :: (.val (.int .i64 ((rootGo n.toNat 32 0 : Nat) : Int)) :: (.val (.int .i64 0) :: (dds 16 (.val (.int .i64 ((rootGo n.toNat 32 0 : Nat) : Int)) :: [])))))))) (ex := .ret) (ps := []) TVec_holds 300 [] [0, 2, 3, 4, 21] (by kernel_rfl) trivial))))) (by intro i e; cases e) rfl
theorem Try.run44 (n : Int) (hn : n ≤ 9223372036854775807) : Runs Try.ir 44 [.int .i64 n] (.int .i64 (rootI n)) := by
  unfold rootI
  cases h : decide (n ≤ 0)
  · rw [if_neg (by simpa using h)]; exact Try.run44_yes n h hn
  · rw [if_pos (by simpa using h)]; exact Try.run44_no n h

def Try.c47 : ICode := .seq (.seq (.region false [o1 7 (.adr 1 1 0),
   o1 8 (.ld 7 1 1 true),
   o1 9 (.adr 1 1 0),
   o1 10 (.ld 9 1 1 true),
   o1 11 (.un .neg (.t 10)),
   o1 12 (.adr 1 1 1),
   o1 13 (.ld 12 1 1 true),
   o1 14 (.adr 1 1 1),
   o1 15 (.ld 14 1 1 true),
   o1 16 (.un .neg (.t 15)),
   o1 17 (.mx [.t 8, .t 11, .t 13, .t 16]),
   o1 18 (.bin .gtr (.t 17) (.c (.int .i64 2097152)))])
  (.cond (.t 18) (.skip)
  (.exit 0)))
  (.block 1 (.region false [o1 19 (.adr 1 1 0),
   o1 20 (.ld 19 1 1 true),
   o1 21 (.bin .quo (.t 20) (.c (.int .i64 2))),
   o1 22 (.adr 1 1 1),
   o1 23 (.ld 22 1 1 true),
   o1 24 (.bin .quo (.t 23) (.c (.int .i64 2))),
   o1 25 (.bld [.int .i64 0, .int .i64 0] [(0, 1, .t 21), (1, 1, .t 24)]),
   oN (.st 1 1 2 (.t 25))]))
def Try.s47 (x y : Int) : State := (dds 1 (.box [.int .i64 x, .int .i64 y] :: (.box [.int .i64 0, .int .i64 0] :: (dds 24 []))))
theorem Try.k47_1 (x y : Int) (c1 : (decide ((if (IntKind.i64.wrap (0 - y)) > (if y > (if (IntKind.i64.wrap (0 - x)) > x then (IntKind.i64.wrap (0 - x)) else x) then y else (if (IntKind.i64.wrap (0 - x)) > x then (IntKind.i64.wrap (0 - x)) else x)) then (IntKind.i64.wrap (0 - y)) else (if y > (if (IntKind.i64.wrap (0 - x)) > x then (IntKind.i64.wrap (0 - x)) else x) then y else (if (IntKind.i64.wrap (0 - x)) > x then (IntKind.i64.wrap (0 - x)) else x))) > 2097152)) = true) : RunsW Try.ir Try.c47 (Try.s47 x y) .norm (Try.s47 (IntKind.i64.wrap (Int.tdiv x 2)) (IntKind.i64.wrap (Int.tdiv y 2))) :=
  RunsW.script (ps := [(decide ((if (IntKind.i64.wrap (0 - y)) > (if y > (if (IntKind.i64.wrap (0 - x)) > x then (IntKind.i64.wrap (0 - x)) else x) then y else (if (IntKind.i64.wrap (0 - x)) > x then (IntKind.i64.wrap (0 - x)) else x)) then (IntKind.i64.wrap (0 - y)) else (if y > (if (IntKind.i64.wrap (0 - x)) > x then (IntKind.i64.wrap (0 - x)) else x) then y else (if (IntKind.i64.wrap (0 - x)) > x then (IntKind.i64.wrap (0 - x)) else x))) > 2097152)) = true, ¬ (2 : Int) = 0, ¬ (2 : Int) = 0]) TVec_holds 300 [.b true] [1, 2] (by kernel_rfl) ⟨c1, (by decide), (by decide), trivial⟩
theorem Try.k47_2 (x y : Int) (c1 : (decide ((if (IntKind.i64.wrap (0 - y)) > (if y > (if (IntKind.i64.wrap (0 - x)) > x then (IntKind.i64.wrap (0 - x)) else x) then y else (if (IntKind.i64.wrap (0 - x)) > x then (IntKind.i64.wrap (0 - x)) else x)) then (IntKind.i64.wrap (0 - y)) else (if y > (if (IntKind.i64.wrap (0 - x)) > x then (IntKind.i64.wrap (0 - x)) else x) then y else (if (IntKind.i64.wrap (0 - x)) > x then (IntKind.i64.wrap (0 - x)) else x))) > 2097152)) = false) : RunsW Try.ir Try.c47 (Try.s47 x y) (.exit 0) (Try.s47 x y) :=
  RunsW.script (ps := [(decide ((if (IntKind.i64.wrap (0 - y)) > (if y > (if (IntKind.i64.wrap (0 - x)) > x then (IntKind.i64.wrap (0 - x)) else x) then y else (if (IntKind.i64.wrap (0 - x)) > x then (IntKind.i64.wrap (0 - x)) else x)) then (IntKind.i64.wrap (0 - y)) else (if y > (if (IntKind.i64.wrap (0 - x)) > x then (IntKind.i64.wrap (0 - x)) else x) then y else (if (IntKind.i64.wrap (0 - x)) > x then (IntKind.i64.wrap (0 - x)) else x))) > 2097152)) = false]) TVec_holds 300 [.b false] [1, 2] (by kernel_rfl) ⟨c1, trivial⟩

def bigB (x y : Int) : Bool := decide (2097152 < x) || decide (2097152 < -x) || decide (2097152 < y) || decide (2097152 < -y)
def halveGo : Nat → Int → Int → Int × Int
  | 0, x, y => (x, y)
  | k + 1, x, y => if bigB x y then halveGo k (Int.tdiv x 2) (Int.tdiv y 2) else (x, y)
def halveV (x y : Int) : Int × Int := if smallB x y then halveGo 10 x y else (0, 0)

theorem big_cond (x y : Int) (h1 : -1073741824 ≤ x ∧ x ≤ 1073741824) (h2 : -1073741824 ≤ y ∧ y ≤ 1073741824) : decide ((if (IntKind.i64.wrap (0 - y)) > (if y > (if (IntKind.i64.wrap (0 - x)) > x then (IntKind.i64.wrap (0 - x)) else x) then y else (if (IntKind.i64.wrap (0 - x)) > x then (IntKind.i64.wrap (0 - x)) else x)) then (IntKind.i64.wrap (0 - y)) else (if y > (if (IntKind.i64.wrap (0 - x)) > x then (IntKind.i64.wrap (0 - x)) else x) then y else (if (IntKind.i64.wrap (0 - x)) > x then (IntKind.i64.wrap (0 - x)) else x))) > 2097152) = bigB x y := by
  simp only [Int.zero_sub, w64 (n := -x) (by omega) (by omega), w64 (n := -y) (by omega) (by omega), bigB]
  rw [Bool.eq_iff_iff]
  simp only [decide_eq_true_eq, Bool.or_eq_true]
  repeat' split
  all_goals omega

theorem Try.loop47 : ∀ (k : Nat) (x y : Int), k ≤ 9 → -(2097152 * 2 ^ k) ≤ x → x ≤ 2097152 * 2 ^ k → -(2097152 * 2 ^ k) ≤ y → y ≤ 2097152 * 2 ^ k →
    ∀ j, k ≤ j → RunsW Try.ir (.loop Try.c47) (Try.s47 x y) (.exit 0) (Try.s47 (halveGo j x y).1 (halveGo j x y).2) := by
  intro k
  induction k with
  | zero =>
    intro x y _ h1 h2 h3 h4 j _
    simp only [Int.pow_zero, Int.mul_one] at h1 h2 h3 h4
    have hb : bigB x y = false := by simp [bigB]; omega
    have hg : halveGo j x y = (x, y) := by
      cases j with
      | zero => rfl
      | succ j => simp only [halveGo, hb]; rfl
    rw [hg]
    exact RunsW.loop_out (Try.k47_2 x y ((big_cond x y (by omega) (by omega)).trans hb)) (by intro e; cases e)
  | succ k ih =>
    intro x y hk h1 h2 h3 h4 j hj
    have hp : (2 : Int) ^ (k + 1) = 2 ^ k * 2 := Int.pow_succ ..
    have hle : (2 : Int) ^ k ≤ 256 := by
      have : k ≤ 8 := by omega
      have h9 : k = 0 ∨ k = 1 ∨ k = 2 ∨ k = 3 ∨ k = 4 ∨ k = 5 ∨ k = 6 ∨ k = 7 ∨ k = 8 := by omega
      rcases h9 with rfl | rfl | rfl | rfl | rfl | rfl | rfl | rfl | rfl <;> decide
    have hpos : (0 : Int) < 2 ^ k := Int.pow_pos (by omega)
    rw [hp] at h1 h2 h3 h4
    generalize (2 : Int) ^ k = p at *
    have hx : -1073741824 ≤ x ∧ x ≤ 1073741824 := by omega
    have hy : -1073741824 ≤ y ∧ y ≤ 1073741824 := by omega
    cases hb : bigB x y
    · have hg : halveGo j x y = (x, y) := by
        cases j with
        | zero => rfl
        | succ j => simp only [halveGo, hb]; rfl
      rw [hg]
      exact RunsW.loop_out (Try.k47_2 x y ((big_cond x y hx hy).trans hb)) (by intro e; cases e)
    · obtain ⟨j, rfl⟩ : ∃ j', j = j' + 1 := ⟨j - 1, by omega⟩
      have hg : halveGo (j + 1) x y = halveGo j (Int.tdiv x 2) (Int.tdiv y 2) := by simp only [halveGo, hb]; rfl
      rw [hg]
      have h5 := Try.k47_1 x y ((big_cond x y hx hy).trans hb)
      have tx : -(2097152 * p) ≤ Int.tdiv x 2 ∧ Int.tdiv x 2 ≤ 2097152 * p := by
        rcases Int.le_total 0 x with h | h
        · rw [Int.tdiv_eq_ediv_of_nonneg h]; omega
        · have := Int.neg_tdiv (a := x) (b := 2)
          have e : Int.tdiv x 2 = -((-x) / 2) := by rw [← Int.tdiv_eq_ediv_of_nonneg (by omega : 0 ≤ -x), this]; omega
          rw [e]; omega
      have ty : -(2097152 * p) ≤ Int.tdiv y 2 ∧ Int.tdiv y 2 ≤ 2097152 * p := by
        rcases Int.le_total 0 y with h | h
        · rw [Int.tdiv_eq_ediv_of_nonneg h]; omega
        · have := Int.neg_tdiv (a := y) (b := 2)
          have e : Int.tdiv y 2 = -((-y) / 2) := by rw [← Int.tdiv_eq_ediv_of_nonneg (by omega : 0 ≤ -y), this]; omega
          rw [e]; omega
      rw [w64 (n := Int.tdiv x 2) (by omega) (by omega), w64 (n := Int.tdiv y 2) (by omega) (by omega)] at h5
      exact RunsW.loop h5 (ih _ _ (by omega) tx.1 tx.2 ty.1 ty.2 j (by omega))

theorem Try.run47_no (x y : Int) (h : smallB x y = false) : Runs Try.ir 47 [.agg [.int .i64 x, .int .i64 y]] (.agg [.int .i64 0, .int .i64 0]) :=
  Runs.script (ps := [(!(smallB x y)) = true]) TVec_holds rfl 300 rfl [.b true] (by kernel_rfl) ⟨(by rw [h]; rfl), trivial⟩
theorem Try.run47_yes (x y : Int) (h : smallB x y = true) : Runs Try.ir 47 [.agg [.int .i64 x, .int .i64 y]] (.agg [.int .i64 (halveGo 10 x y).1, .int .i64 (halveGo 10 x y).2]) := by
  have g := smallB_yes h
  have hl := Try.loop47 9 x y (by omega) (by simp; omega) (by simp; omega) (by simp; omega) (by simp; omega) 10 (by omega)
  exact Runs.of_bodyW (fn := Try.i47) (s := (dds 1 (.box [.int .i64 ((halveGo 10 x y).1), .int .i64 ((halveGo 10 x y).2)] :: (.box [.int .i64 ((halveGo 10 x y).1), .int .i64 ((halveGo 10 x y).2)] :: (dds 23 (.val (.agg [.int .i64 ((halveGo 10 x y).1), .int .i64 ((halveGo 10 x y).2)]) :: [])))))) (ex := .ret) rfl rfl
    (RunsW.seq (RunsW.script (t := (.val (.agg [.int .i64 x, .int .i64 y]) :: (.box [.int .i64 x, .int .i64 y] :: (.box [.int .i64 0, .int .i64 0] :: (dds 24 []))))) (ex := .norm) (ps := []) TVec_holds 300 [] [0, 1, 2] (by kernel_rfl) trivial)
    (RunsW.seq (RunsW.script (t := (dds 1 (.box [.int .i64 x, .int .i64 y] :: (.box [.int .i64 0, .int .i64 0] :: (dds 24 []))))) (ex := .norm) (ps := [(!(smallB x y)) = false]) TVec_holds 300 [.b false] [1, 2] (by kernel_rfl) ⟨(by rw [h]; rfl), trivial⟩)
    (RunsW.seq (RunsW.block hl)
    (RunsW.script (t := (dds 1 (.box [.int .i64 ((halveGo 10 x y).1), .int .i64 ((halveGo 10 x y).2)] :: (.box [.int .i64 ((halveGo 10 x y).1), .int .i64 ((halveGo 10 x y).2)] :: (dds 23 (.val (.agg [.int .i64 ((halveGo 10 x y).1), .int .i64 ((halveGo 10 x y).2)]) :: [])))))) (ex := .ret) (ps := []) TVec_holds 300 [] [1, 2, 26] (by kernel_rfl) trivial)))) (by intro i e; cases e) rfl
theorem Try.run47 (x y : Int) : Runs Try.ir 47 [.agg [.int .i64 x, .int .i64 y]] (.agg [.int .i64 (halveV x y).1, .int .i64 (halveV x y).2]) := by
  unfold halveV
  cases h : smallB x y
  · exact Try.run47_no x y h
  · exact Try.run47_yes x y h

def g47 : List AV → Option (AV × List Prop)
  | [.agg [.int .i64 x, .int .i64 y]] => some (.agg [.int .i64 (halveV x y).1, .int .i64 (halveV x y).2], [])
  | _ => none
def TL1 : Table := (47, g47) :: TVec
theorem TL1_holds : THolds Try.ir TL1 := THolds.cons TVec_holds (by
  intro args r ps h hp
  unfold g47 at h
  split at h
  · cases h; exact Try.run47 _ _
  · cases h)

def g44 : List AV → Option (AV × List Prop)
  | [.int .i64 n] => some (.int .i64 (rootI n), [n ≤ 9223372036854775807])
  | _ => none
def TL2 : Table := (44, g44) :: TL1
theorem TL2_holds : THolds Try.ir TL2 := THolds.cons TL1_holds (by
  intro args r ps h hp
  unfold g44 at h
  split at h
  · cases h; exact Try.run44 _ hp.1
  · cases h)

def TLoop : Table := TL2
theorem TLoop_holds : THolds Try.ir TLoop := TL2_holds
end Go.Proofs.Ythakfjlnhldehaa
