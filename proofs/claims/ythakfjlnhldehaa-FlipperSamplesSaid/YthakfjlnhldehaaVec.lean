/- Contracts of the package vector: what its functions return, as equations over whole numbers. -/
import Derived.Test.YthakfjlnhldehaaIr
import Derived.Test.YthakfjlnhldehaaWords
namespace Go.Proofs.Ythakfjlnhldehaa
open Go.Ai
set_option maxRecDepth 100000

def TV0 : Table := []
theorem TV0_holds : THolds Try.ir TV0 := THolds.nil _

def smallB (x y : Int) : Bool := decide (-1073741824 ≤ x) && decide (x ≤ 1073741824) && decide (-1073741824 ≤ y) && decide (y ≤ 1073741824)
theorem smallB_yes {x y : Int} (h : smallB x y = true) : -1073741824 ≤ x ∧ x ≤ 1073741824 ∧ -1073741824 ≤ y ∧ y ≤ 1073741824 := by
  simp [smallB] at h; omega
theorem smallB_mk {x y : Int} (h : -1073741824 ≤ x ∧ x ≤ 1073741824 ∧ -1073741824 ≤ y ∧ y ≤ 1073741824) : smallB x y = true := by
  simp [smallB]; omega

def Try.sh59 (x y : Int) : AV :=
  match decide (x ≥ (-1073741824)) with
  | true => (match decide (x ≤ 1073741824) with
  | true => (match decide (y ≥ (-1073741824)) with
  | true => (.bool (decide (y ≤ 1073741824)))
  | false => (.bool false))
  | false => (.bool false))
  | false => (.bool false)
theorem Try.run59 (x y : Int)  : Runs Try.ir 59 [.agg [.int .i64 x, .int .i64 y]] (Try.sh59 x y) := by
  unfold Try.sh59
  cases c1 : (decide (x ≥ (-1073741824)))
  · exact Runs.script (r := .bool false) (ps := [(decide (x ≥ (-1073741824))) = false, false = false, false = false]) TV0_holds rfl 300 rfl [.b false, .b false, .b false] (by kernel_rfl) ⟨c1, rfl, rfl, trivial⟩
  · cases c2 : (decide (x ≤ 1073741824))
    · exact Runs.script (r := .bool false) (ps := [(decide (x ≥ (-1073741824))) = true, (decide (x ≤ 1073741824)) = false, false = false]) TV0_holds rfl 300 rfl [.b true, .b false, .b false] (by kernel_rfl) ⟨c1, c2, rfl, trivial⟩
    · cases c3 : (decide (y ≥ (-1073741824)))
      · exact Runs.script (r := .bool false) (ps := [(decide (x ≥ (-1073741824))) = true, (decide (x ≤ 1073741824)) = true, (decide (y ≥ (-1073741824))) = false]) TV0_holds rfl 300 rfl [.b true, .b true, .b false] (by kernel_rfl) ⟨c1, c2, c3, trivial⟩
      · exact Runs.script (r := .bool (decide (y ≤ 1073741824))) (ps := [(decide (x ≥ (-1073741824))) = true, (decide (x ≤ 1073741824)) = true, (decide (y ≥ (-1073741824))) = true]) TV0_holds rfl 300 rfl [.b true, .b true, .b true] (by kernel_rfl) ⟨c1, c2, c3, trivial⟩
theorem e59 (x y : Int) : Try.sh59 x y = .bool (smallB x y) := by
  unfold Try.sh59 smallB
  repeat' split
  all_goals (simp_all <;> omega)

def g59 : List AV → Option (AV × List Prop)
  | [.agg [.int .i64 x, .int .i64 y]] => some (.bool (smallB x y), [])
  | _ => none
def TV1 : Table := (59, g59) :: TV0
theorem TV1_holds : THolds Try.ir TV1 := THolds.cons TV0_holds (by
  intro args r ps h hp
  unfold g59 at h
  split at h
  · cases h; exact e59 _ _ ▸ Try.run59 _ _
  · cases h)

def keptV (x y : Int) : Int × Int := if smallB x y then (x, y) else (0, 0)

def Try.sh75 (x y : Int) : AV :=
  match smallB x y with
  | true => (.agg [.int .i64 x, .int .i64 y])
  | false => (.agg [.int .i64 0, .int .i64 0])
theorem Try.run75 (x y : Int)  : Runs Try.ir 75 [.agg [.int .i64 x, .int .i64 y]] (Try.sh75 x y) := by
  unfold Try.sh75
  cases c1 : (smallB x y)
  · exact Runs.script (r := .agg [.int .i64 0, .int .i64 0]) (ps := [(!(smallB x y)) = true]) TV1_holds rfl 300 rfl [.b true] (by kernel_rfl) ⟨(by rw [c1]; rfl), trivial⟩
  · exact Runs.script (r := .agg [.int .i64 x, .int .i64 y]) (ps := [(!(smallB x y)) = false]) TV1_holds rfl 300 rfl [.b false] (by kernel_rfl) ⟨(by rw [c1]; rfl), trivial⟩
theorem e75 (x y : Int) : Try.sh75 x y = .agg [.int .i64 (keptV x y).1, .int .i64 (keptV x y).2] := by
  unfold Try.sh75 keptV
  cases h : smallB x y <;> rfl

def g75 : List AV → Option (AV × List Prop)
  | [.agg [.int .i64 x, .int .i64 y]] => some (.agg [.int .i64 (keptV x y).1, .int .i64 (keptV x y).2], [])
  | _ => none
def TV2 : Table := (75, g75) :: TV1
theorem TV2_holds : THolds Try.ir TV2 := THolds.cons TV1_holds (by
  intro args r ps h hp
  unfold g75 at h
  split at h
  · cases h; exact e75 _ _ ▸ Try.run75 _ _
  · cases h)

def subV (a b c d : Int) : Int × Int := if smallB a b && smallB c d then keptV (a - c) (b - d) else (0, 0)

def Try.sh43 (a b c d : Int) : AV :=
  match smallB a b with
  | true => (match smallB c d with
  | true => (.agg [.int .i64 ((keptV (IntKind.i64.wrap (a - c)) (IntKind.i64.wrap (b - d))).1), .int .i64 ((keptV (IntKind.i64.wrap (a - c)) (IntKind.i64.wrap (b - d))).2)])
  | false => (.agg [.int .i64 0, .int .i64 0]))
  | false => (.agg [.int .i64 0, .int .i64 0])
theorem Try.run43 (a b c d : Int)  : Runs Try.ir 43 [.agg [.int .i64 a, .int .i64 b], .agg [.int .i64 c, .int .i64 d]] (Try.sh43 a b c d) := by
  unfold Try.sh43
  cases c1 : (smallB a b)
  · exact Runs.script (r := .agg [.int .i64 0, .int .i64 0]) (ps := [(!(smallB a b)) = true, true = true]) TV2_holds rfl 300 rfl [.b true, .b true] (by kernel_rfl) ⟨(by rw [c1]; rfl), rfl, trivial⟩
  · cases c2 : (smallB c d)
    · exact Runs.script (r := .agg [.int .i64 0, .int .i64 0]) (ps := [(!(smallB a b)) = false, (!(smallB c d)) = true]) TV2_holds rfl 300 rfl [.b false, .b true] (by kernel_rfl) ⟨(by rw [c1]; rfl), (by rw [c2]; rfl), trivial⟩
    · exact Runs.script (r := .agg [.int .i64 ((keptV (IntKind.i64.wrap (a - c)) (IntKind.i64.wrap (b - d))).1), .int .i64 ((keptV (IntKind.i64.wrap (a - c)) (IntKind.i64.wrap (b - d))).2)]) (ps := [(!(smallB a b)) = false, (!(smallB c d)) = false]) TV2_holds rfl 300 rfl [.b false, .b false] (by kernel_rfl) ⟨(by rw [c1]; rfl), (by rw [c2]; rfl), trivial⟩
theorem e43 (a b c d : Int) : Try.sh43 a b c d = .agg [.int .i64 (subV a b c d).1, .int .i64 (subV a b c d).2] := by
  unfold Try.sh43 subV
  cases h1 : smallB a b
  · rfl
  · cases h2 : smallB c d
    · rfl
    · have g1 := smallB_yes h1
      have g2 := smallB_yes h2
      simp only [Bool.and_self, if_true, w64 (n := a - c) (by omega) (by omega), w64 (n := b - d) (by omega) (by omega)]

def g43 : List AV → Option (AV × List Prop)
  | [.agg [.int .i64 a, .int .i64 b], .agg [.int .i64 c, .int .i64 d]] => some (.agg [.int .i64 (subV a b c d).1, .int .i64 (subV a b c d).2], [])
  | _ => none
def TV3 : Table := (43, g43) :: TV2
theorem TV3_holds : THolds Try.ir TV3 := THolds.cons TV2_holds (by
  intro args r ps h hp
  unfold g43 at h
  split at h
  · cases h; exact e43 _ _ _ _ ▸ Try.run43 _ _ _ _
  · cases h)

theorem mul_bd {x y p q : Int} (h1 : -p ≤ x) (h2 : x ≤ p) (h3 : -q ≤ y) (h4 : y ≤ q) : -(p * q) ≤ x * y ∧ x * y ≤ p * q := by
  have a1 := Int.mul_nonneg (show 0 ≤ p - x by omega) (show 0 ≤ q - y by omega)
  have a2 := Int.mul_nonneg (show 0 ≤ p + x by omega) (show 0 ≤ q + y by omega)
  have a3 := Int.mul_nonneg (show 0 ≤ p - x by omega) (show 0 ≤ q + y by omega)
  have a4 := Int.mul_nonneg (show 0 ≤ p + x by omega) (show 0 ≤ q - y by omega)
  constructor <;> grind
theorem small_mul {x y : Int} (h1 : -1073741824 ≤ x) (h2 : x ≤ 1073741824) (h3 : -1073741824 ≤ y) (h4 : y ≤ 1073741824) : -1152921504606846976 ≤ x * y ∧ x * y ≤ 1152921504606846976 := by
  have := mul_bd h1 h2 h3 h4
  omega

def scaleV (a b n : Int) : Int × Int := if smallB a b && !(a == 0 && b == 0) && (decide (-1073741824 ≤ n) && decide (n ≤ 1073741824)) then keptV (a * n) (b * n) else (0, 0)

def Try.sh45 (a b n : Int) : AV :=
  match smallB a b with
  | true => (match a == 0 && (b == 0 && true) with
  | true => (.agg [.int .i64 0, .int .i64 0])
  | false => (match decide (n < (-1073741824)) with
  | true => (.agg [.int .i64 0, .int .i64 0])
  | false => (match decide (n > 1073741824) with
  | true => (.agg [.int .i64 0, .int .i64 0])
  | false => (.agg [.int .i64 ((keptV (IntKind.i64.wrap (a * n)) (IntKind.i64.wrap (b * n))).1), .int .i64 ((keptV (IntKind.i64.wrap (a * n)) (IntKind.i64.wrap (b * n))).2)]))))
  | false => (.agg [.int .i64 0, .int .i64 0])
theorem Try.run45 (a b n : Int)  : Runs Try.ir 45 [.agg [.int .i64 a, .int .i64 b], .int .i64 n] (Try.sh45 a b n) := by
  unfold Try.sh45
  cases c1 : (smallB a b)
  · exact Runs.script (r := .agg [.int .i64 0, .int .i64 0]) (ps := [(!(smallB a b)) = true, true = true, true = true, true = true]) TV3_holds rfl 300 rfl [.b true, .b true, .b true, .b true] (by kernel_rfl) ⟨(by rw [c1]; rfl), rfl, rfl, rfl, trivial⟩
  · cases c2 : (a == 0 && (b == 0 && true))
    · cases c3 : (decide (n < (-1073741824)))
      · cases c4 : (decide (n > 1073741824))
        · exact Runs.script (r := .agg [.int .i64 ((keptV (IntKind.i64.wrap (a * n)) (IntKind.i64.wrap (b * n))).1), .int .i64 ((keptV (IntKind.i64.wrap (a * n)) (IntKind.i64.wrap (b * n))).2)]) (ps := [(!(smallB a b)) = false, (a == 0 && (b == 0 && true)) = false, (decide (n < (-1073741824))) = false, (decide (n > 1073741824)) = false]) TV3_holds rfl 300 rfl [.b false, .b false, .b false, .b false] (by kernel_rfl) ⟨(by rw [c1]; rfl), c2, c3, c4, trivial⟩
        · exact Runs.script (r := .agg [.int .i64 0, .int .i64 0]) (ps := [(!(smallB a b)) = false, (a == 0 && (b == 0 && true)) = false, (decide (n < (-1073741824))) = false, (decide (n > 1073741824)) = true]) TV3_holds rfl 300 rfl [.b false, .b false, .b false, .b true] (by kernel_rfl) ⟨(by rw [c1]; rfl), c2, c3, c4, trivial⟩
      · exact Runs.script (r := .agg [.int .i64 0, .int .i64 0]) (ps := [(!(smallB a b)) = false, (a == 0 && (b == 0 && true)) = false, (decide (n < (-1073741824))) = true, true = true]) TV3_holds rfl 300 rfl [.b false, .b false, .b true, .b true] (by kernel_rfl) ⟨(by rw [c1]; rfl), c2, c3, rfl, trivial⟩
    · exact Runs.script (r := .agg [.int .i64 0, .int .i64 0]) (ps := [(!(smallB a b)) = false, (a == 0 && (b == 0 && true)) = true, true = true, true = true]) TV3_holds rfl 300 rfl [.b false, .b true, .b true, .b true] (by kernel_rfl) ⟨(by rw [c1]; rfl), c2, rfl, rfl, trivial⟩
theorem e45 (a b n : Int) : Try.sh45 a b n = .agg [.int .i64 (scaleV a b n).1, .int .i64 (scaleV a b n).2] := by
  unfold Try.sh45 scaleV
  cases h1 : smallB a b
  · rfl
  · have g1 := smallB_yes h1
    by_cases h2 : a = 0 ∧ b = 0
    · obtain ⟨rfl, rfl⟩ := h2
      rfl
    · have h2' : (a == 0 && (b == 0 && true)) = false := by
        simp; omega
      have h2'' : (a == 0 && b == 0) = false := by
        simp; omega
      by_cases h3 : n < -1073741824
      · have k1 : decide (n < -1073741824) = true := by simpa using h3
        have k2 : decide (-1073741824 ≤ n) = false := by simp; omega
        simp [h2'', k1, k2]
      · by_cases h4 : n > 1073741824
        · have k1 : decide (n < -1073741824) = false := by simp; omega
          have k2 : decide (-1073741824 ≤ n) = true := by simp; omega
          have k3 : decide (n > 1073741824) = true := by simpa using h4
          have k4 : decide (n ≤ 1073741824) = false := by simp; omega
          simp [h2'', k1, k2, k3, k4]
        · have k1 : decide (n < -1073741824) = false := by simp; omega
          have k2 : decide (-1073741824 ≤ n) = true := by simp; omega
          have k3 : decide (n > 1073741824) = false := by simpa using h4
          have k4 : decide (n ≤ 1073741824) = true := by simp; omega
          have m1 := small_mul (x := a) (y := n) (by omega) (by omega) (by omega) (by omega)
          have m2 := small_mul (x := b) (y := n) (by omega) (by omega) (by omega) (by omega)
          simp [h2'', k1, k2, k3, k4, w64 (n := a * n) (by omega) (by omega), w64 (n := b * n) (by omega) (by omega)]

def g45 : List AV → Option (AV × List Prop)
  | [.agg [.int .i64 a, .int .i64 b], .int .i64 n] => some (.agg [.int .i64 (scaleV a b n).1, .int .i64 (scaleV a b n).2], [])
  | _ => none
def TV4 : Table := (45, g45) :: TV3
theorem TV4_holds : THolds Try.ir TV4 := THolds.cons TV3_holds (by
  intro args r ps h hp
  unfold g45 at h
  split at h
  · cases h; exact e45 _ _ _ ▸ Try.run45 _ _ _
  · cases h)

def dotI (a b c d : Int) : Int := if smallB a b && smallB c d then a * c + b * d else 0

def Try.sh33 (a b c d : Int) : AV :=
  match smallB a b with
  | true => (match smallB c d with
  | true => (.int .i64 (IntKind.i64.wrap ((IntKind.i64.wrap (a * c)) + (IntKind.i64.wrap (b * d)))))
  | false => (.int .i64 0))
  | false => (.int .i64 0)
theorem Try.run33 (a b c d : Int)  : Runs Try.ir 33 [.agg [.int .i64 a, .int .i64 b], .agg [.int .i64 c, .int .i64 d]] (Try.sh33 a b c d) := by
  unfold Try.sh33
  cases c1 : (smallB a b)
  · exact Runs.script (r := .int .i64 0) (ps := [(!(smallB a b)) = true, true = true]) TV4_holds rfl 300 rfl [.b true, .b true] (by kernel_rfl) ⟨(by rw [c1]; rfl), rfl, trivial⟩
  · cases c2 : (smallB c d)
    · exact Runs.script (r := .int .i64 0) (ps := [(!(smallB a b)) = false, (!(smallB c d)) = true]) TV4_holds rfl 300 rfl [.b false, .b true] (by kernel_rfl) ⟨(by rw [c1]; rfl), (by rw [c2]; rfl), trivial⟩
    · exact Runs.script (r := .int .i64 (IntKind.i64.wrap ((IntKind.i64.wrap (a * c)) + (IntKind.i64.wrap (b * d))))) (ps := [(!(smallB a b)) = false, (!(smallB c d)) = false]) TV4_holds rfl 300 rfl [.b false, .b false] (by kernel_rfl) ⟨(by rw [c1]; rfl), (by rw [c2]; rfl), trivial⟩
theorem e33 (a b c d : Int) : Try.sh33 a b c d = .int .i64 (dotI a b c d) := by
  unfold Try.sh33 dotI
  cases h1 : smallB a b
  · rfl
  · cases h2 : smallB c d
    · rfl
    · have g1 := smallB_yes h1
      have g2 := smallB_yes h2
      have m1 := small_mul (x := a) (y := c) (by omega) (by omega) (by omega) (by omega)
      have m2 := small_mul (x := b) (y := d) (by omega) (by omega) (by omega) (by omega)
      simp only [Bool.and_self, if_true, w64 (n := a * c) (by omega) (by omega), w64 (n := b * d) (by omega) (by omega), w64 (n := a * c + b * d) (by omega) (by omega)]

def g33 : List AV → Option (AV × List Prop)
  | [.agg [.int .i64 a, .int .i64 b], .agg [.int .i64 c, .int .i64 d]] => some (.int .i64 (dotI a b c d), [])
  | _ => none
def TV5 : Table := (33, g33) :: TV4
theorem TV5_holds : THolds Try.ir TV5 := THolds.cons TV4_holds (by
  intro args r ps h hp
  unfold g33 at h
  split at h
  · cases h; exact e33 _ _ _ _ ▸ Try.run33 _ _ _ _
  · cases h)

def crossI (a b c d : Int) : Int := if smallB a b && smallB c d then a * d - b * c else 0

def Try.sh27 (a b c d : Int) : AV :=
  match smallB a b with
  | true => (match smallB c d with
  | true => (.int .i64 (IntKind.i64.wrap ((IntKind.i64.wrap (a * d)) - (IntKind.i64.wrap (b * c)))))
  | false => (.int .i64 0))
  | false => (.int .i64 0)
theorem Try.run27 (a b c d : Int)  : Runs Try.ir 27 [.agg [.int .i64 a, .int .i64 b], .agg [.int .i64 c, .int .i64 d]] (Try.sh27 a b c d) := by
  unfold Try.sh27
  cases c1 : (smallB a b)
  · exact Runs.script (r := .int .i64 0) (ps := [(!(smallB a b)) = true, true = true]) TV5_holds rfl 300 rfl [.b true, .b true] (by kernel_rfl) ⟨(by rw [c1]; rfl), rfl, trivial⟩
  · cases c2 : (smallB c d)
    · exact Runs.script (r := .int .i64 0) (ps := [(!(smallB a b)) = false, (!(smallB c d)) = true]) TV5_holds rfl 300 rfl [.b false, .b true] (by kernel_rfl) ⟨(by rw [c1]; rfl), (by rw [c2]; rfl), trivial⟩
    · exact Runs.script (r := .int .i64 (IntKind.i64.wrap ((IntKind.i64.wrap (a * d)) - (IntKind.i64.wrap (b * c))))) (ps := [(!(smallB a b)) = false, (!(smallB c d)) = false]) TV5_holds rfl 300 rfl [.b false, .b false] (by kernel_rfl) ⟨(by rw [c1]; rfl), (by rw [c2]; rfl), trivial⟩
theorem e27 (a b c d : Int) : Try.sh27 a b c d = .int .i64 (crossI a b c d) := by
  unfold Try.sh27 crossI
  cases h1 : smallB a b
  · rfl
  · cases h2 : smallB c d
    · rfl
    · have g1 := smallB_yes h1
      have g2 := smallB_yes h2
      have m1 := small_mul (x := a) (y := d) (by omega) (by omega) (by omega) (by omega)
      have m2 := small_mul (x := b) (y := c) (by omega) (by omega) (by omega) (by omega)
      simp only [Bool.and_self, if_true, w64 (n := a * d) (by omega) (by omega), w64 (n := b * c) (by omega) (by omega), w64 (n := a * d - b * c) (by omega) (by omega)]

def g27 : List AV → Option (AV × List Prop)
  | [.agg [.int .i64 a, .int .i64 b], .agg [.int .i64 c, .int .i64 d]] => some (.int .i64 (crossI a b c d), [])
  | _ => none
def TV6 : Table := (27, g27) :: TV5
theorem TV6_holds : THolds Try.ir TV6 := THolds.cons TV5_holds (by
  intro args r ps h hp
  unfold g27 at h
  split at h
  · cases h; exact e27 _ _ _ _ ▸ Try.run27 _ _ _ _
  · cases h)

def perpV (x y : Int) : Int × Int := if smallB x y then (-y, x) else (0, 0)

def Try.sh57 (x y : Int) : AV :=
  match smallB x y with
  | true => (.agg [.int .i64 (IntKind.i64.wrap (0 - y)), .int .i64 x])
  | false => (.agg [.int .i64 0, .int .i64 0])
theorem Try.run57 (x y : Int)  : Runs Try.ir 57 [.agg [.int .i64 x, .int .i64 y]] (Try.sh57 x y) := by
  unfold Try.sh57
  cases c1 : (smallB x y)
  · exact Runs.script (r := .agg [.int .i64 0, .int .i64 0]) (ps := [(!(smallB x y)) = true]) TV6_holds rfl 300 rfl [.b true] (by kernel_rfl) ⟨(by rw [c1]; rfl), trivial⟩
  · exact Runs.script (r := .agg [.int .i64 (IntKind.i64.wrap (0 - y)), .int .i64 x]) (ps := [(!(smallB x y)) = false]) TV6_holds rfl 300 rfl [.b false] (by kernel_rfl) ⟨(by rw [c1]; rfl), trivial⟩
theorem e57 (x y : Int) : Try.sh57 x y = .agg [.int .i64 (perpV x y).1, .int .i64 (perpV x y).2] := by
  unfold Try.sh57 perpV
  cases h : smallB x y
  · rfl
  · have g := smallB_yes h
    simp only [if_true, Int.zero_sub, w64 (n := -y) (by omega) (by omega)]

def g57 : List AV → Option (AV × List Prop)
  | [.agg [.int .i64 x, .int .i64 y]] => some (.agg [.int .i64 (perpV x y).1, .int .i64 (perpV x y).2], [])
  | _ => none
def TV7 : Table := (57, g57) :: TV6
theorem TV7_holds : THolds Try.ir TV7 := THolds.cons TV6_holds (by
  intro args r ps h hp
  unfold g57 at h
  split at h
  · cases h; exact e57 _ _ ▸ Try.run57 _ _
  · cases h)

def TVec : Table := TV7
theorem TVec_holds : THolds Try.ir TVec := TV7_holds
end Go.Proofs.Ythakfjlnhldehaa
