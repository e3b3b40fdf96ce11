/- The plain law of FlipperSteps: the package's step and direction are the reference's. -/
import Derived.Test.YthakfjlnhldehaaSteps
import Derived.Test.YthakfjlnhldehaaAbs17
namespace Go.Proofs.Ythakfjlnhldehaa
open Go.Ai

theorem in09_eq (n a b : Int) : in09 n a b = inR a b n := by
  unfold in09 inR
  rw [Bool.eq_iff_iff]
  simp only [Bool.and_eq_true, decide_eq_true_eq]
  repeat' split
  all_goals (simp_all <;> omega)
theorem near09_eq (x y : Int) : near09 x y 1048576 = (inR (-1048576) 1048576 x && inR (-1048576) 1048576 y) := by
  unfold near09
  rw [in09_eq, in09_eq, w64 (by omega) (by omega)]
  cases h : inR (-1048576) 1048576 x <;> simp [h]

theorem flips_eq (px py ln lo hi up dn mx : Int) : flips px py ln lo hi up dn mx = permB px py ln lo hi up dn mx := by
  unfold flips permB
  simp only [near09_eq, in09_eq]
  repeat' split
  all_goals (simp_all <;> omega)

theorem angle13_eq (k : Int) : angle13 k = inR (-256) 256 k := by
  unfold angle13 inR
  rw [Bool.eq_iff_iff]
  simp only [Bool.and_eq_true, decide_eq_true_eq]
  repeat' split
  all_goals (simp_all <;> omega)

theorem next13_eq (px py ln lo hi up dn mx k s : Int) (on : Bool) : next13 px py ln lo hi up dn mx k s on = nextI px py ln lo hi up dn mx k s on := by
  unfold next13 nextI
  rw [flips_eq, angle13_eq]
  cases permB px py ln lo hi up dn mx
  · rfl
  cases inR (-256) 256 k
  · rfl
  dsimp only [Bool.and_self]
  by_cases h1 : s < -64
  · have : inR (-64) 64 s = false := by unfold inR; simp; omega
    have h2 : decide (s < -64) = true := by simpa using h1
    rw [this, h2]
    rfl
  · have h2 : decide (s < -64) = false := by simpa using h1
    rw [h2]
    by_cases h3 : s > 64
    · have : inR (-64) 64 s = false := by unfold inR; simp; omega
      have h4 : decide (s > 64) = true := by simpa using h3
      rw [this, h4]
      rfl
    · have : inR (-64) 64 s = true := by unfold inR; simp; omega
      have h4 : decide (s > 64) = false := by simpa using h3
      rw [this, h4]
      rfl

theorem direction13_eq (px py ln : Int) (mi : Bool) (lo hi up dn mx k : Int) : direction13 px py ln mi lo hi up dn mx k = direction px py ln mi lo hi up dn mx k := by
  unfold direction13 direction
  rw [flips_eq, angle13_eq]
  cases permB px py ln lo hi up dn mx
  · rfl
  cases inR (-256) 256 k
  · rfl
  · rfl

theorem steps2_true (l0 l1 px py ln : Int) (mi : Bool) (lo hi up dn mx : Int) (on : Bool) : steps2 l0 l1 px py ln mi lo hi up dn mx on = true := by
  unfold steps2
  rw [next13_eq, direction13_eq]
  simp

theorem Try.run5 (nm : ByteArray) (lv px py ln : Int) (mi : Bool) (lo hi up dn mx rs gr co sw : Int) (x : AV) (hx : IntsAV .i64 x) (on : Bool) :
    Runs Try.ir 5 [.agg [.str nm, .int .i64 lv, .int .i64 px, .int .i64 py, .int .i64 ln, .bool mi, .int .i64 lo, .int .i64 hi, .int .i64 up, .int .i64 dn, .int .i64 mx, .int .i64 rs, .int .i64 gr, .int .i64 co, .int .i64 sw], x, .bool on] (.bool true) := by
  rcases hx with rfl | ⟨xs, _, rfl⟩
  · exact Try.run5_0 ..
  · match xs with
    | [] => exact Try.run5_1 0 _ _ _ _ _ _ _ _ _ _ _ _ _ _ _ _ _ rfl
    | [a] => exact Try.run5_1 1 _ _ _ _ _ _ _ _ _ _ _ _ _ _ _ _ _ rfl
    | a :: b :: l =>
      have h := Try.run5_2 (a :: b :: l).length (l.map (AV.int .i64)) a b nm lv px py ln mi lo hi up dn mx rs gr co sw on (by simp; omega)
      rw [steps2_true] at h
      exact h
end Go.Proofs.Ythakfjlnhldehaa
