/- Contracts of the package flipper: which flippers are permitted, how they move and where they point, as equations over whole numbers. -/
import Derived.Test.YthakfjlnhldehaaLoop
namespace Go.Proofs.Ythakfjlnhldehaa
open Go.Ai
set_option maxRecDepth 100000

def inR (lo hi x : Int) : Bool := decide (lo ≤ x) && decide (x ≤ hi)
def Try.sh51_1 (lo hi x0 : Int) : AV :=
  match decide (x0 < lo) with
  | true => (.bool false)
  | false => (match decide (x0 > hi) with
  | true => (.bool false)
  | false => (.bool true))
theorem Try.run51_1 (lo hi x0 : Int)  : Runs Try.ir 51 [.int .i64 lo, .int .i64 hi, .sl 1 [.int .i64 x0]] (Try.sh51_1 lo hi x0) := by
  unfold Try.sh51_1
  cases c1 : (decide (x0 < lo))
  · cases c2 : (decide (x0 > hi))
    · exact Runs.script (r := .bool true) (ps := [true = true, 0 ≤ (0 : Int) ∧ (0 : Int) < (1 : Nat), takeA [.int .i64 x0] 0 1 true = some (.int .i64 x0), (decide (x0 < lo)) = false, (decide (x0 > hi)) = false, false = false]) TLoop_holds rfl 300 rfl [.b true, .v (.int .i64 x0), .b false, .b false, .b false] (by kernel_rfl) ⟨rfl, (by decide), rfl, c1, c2, rfl, trivial⟩
    · exact Runs.script (r := .bool false) (ps := [true = true, 0 ≤ (0 : Int) ∧ (0 : Int) < (1 : Nat), takeA [.int .i64 x0] 0 1 true = some (.int .i64 x0), (decide (x0 < lo)) = false, (decide (x0 > hi)) = true]) TLoop_holds rfl 300 rfl [.b true, .v (.int .i64 x0), .b false, .b true] (by kernel_rfl) ⟨rfl, (by decide), rfl, c1, c2, trivial⟩
  · exact Runs.script (r := .bool false) (ps := [true = true, 0 ≤ (0 : Int) ∧ (0 : Int) < (1 : Nat), takeA [.int .i64 x0] 0 1 true = some (.int .i64 x0), (decide (x0 < lo)) = true, true = true]) TLoop_holds rfl 300 rfl [.b true, .v (.int .i64 x0), .b true, .b true] (by kernel_rfl) ⟨rfl, (by decide), rfl, c1, rfl, trivial⟩
theorem e51_1 (lo hi x0 : Int) : Try.sh51_1 lo hi x0 = .bool (inR lo hi x0) := by
  unfold Try.sh51_1 inR
  repeat' split
  all_goals (simp_all <;> omega)

def Try.sh51_2 (lo hi x0 x1 : Int) : AV :=
  match decide (x0 < lo) with
  | true => (.bool false)
  | false => (match decide (x0 > hi) with
  | true => (.bool false)
  | false => (match decide (x1 < lo) with
  | true => (.bool false)
  | false => (match decide (x1 > hi) with
  | true => (.bool false)
  | false => (.bool true))))
theorem Try.run51_2 (lo hi x0 x1 : Int)  : Runs Try.ir 51 [.int .i64 lo, .int .i64 hi, .sl 2 [.int .i64 x0, .int .i64 x1]] (Try.sh51_2 lo hi x0 x1) := by
  unfold Try.sh51_2
  cases c1 : (decide (x0 < lo))
  · cases c2 : (decide (x0 > hi))
    · cases c3 : (decide (x1 < lo))
      · cases c4 : (decide (x1 > hi))
        · exact Runs.script (r := .bool true) (ps := [true = true, 0 ≤ (0 : Int) ∧ (0 : Int) < (2 : Nat), takeA [.int .i64 x0, .int .i64 x1] 0 1 true = some (.int .i64 x0), (decide (x0 < lo)) = false, (decide (x0 > hi)) = false, true = true, 0 ≤ (1 : Int) ∧ (1 : Int) < (2 : Nat), takeA [.int .i64 x1] 0 1 true = some (.int .i64 x1), (decide (x1 < lo)) = false, (decide (x1 > hi)) = false, false = false]) TLoop_holds rfl 300 rfl [.b true, .v (.int .i64 x0), .b false, .b false, .b true, .v (.int .i64 x1), .b false, .b false, .b false] (by kernel_rfl) ⟨rfl, (by decide), rfl, c1, c2, rfl, (by decide), rfl, c3, c4, rfl, trivial⟩
        · exact Runs.script (r := .bool false) (ps := [true = true, 0 ≤ (0 : Int) ∧ (0 : Int) < (2 : Nat), takeA [.int .i64 x0, .int .i64 x1] 0 1 true = some (.int .i64 x0), (decide (x0 < lo)) = false, (decide (x0 > hi)) = false, true = true, 0 ≤ (1 : Int) ∧ (1 : Int) < (2 : Nat), takeA [.int .i64 x1] 0 1 true = some (.int .i64 x1), (decide (x1 < lo)) = false, (decide (x1 > hi)) = true]) TLoop_holds rfl 300 rfl [.b true, .v (.int .i64 x0), .b false, .b false, .b true, .v (.int .i64 x1), .b false, .b true] (by kernel_rfl) ⟨rfl, (by decide), rfl, c1, c2, rfl, (by decide), rfl, c3, c4, trivial⟩
      · exact Runs.script (r := .bool false) (ps := [true = true, 0 ≤ (0 : Int) ∧ (0 : Int) < (2 : Nat), takeA [.int .i64 x0, .int .i64 x1] 0 1 true = some (.int .i64 x0), (decide (x0 < lo)) = false, (decide (x0 > hi)) = false, true = true, 0 ≤ (1 : Int) ∧ (1 : Int) < (2 : Nat), takeA [.int .i64 x1] 0 1 true = some (.int .i64 x1), (decide (x1 < lo)) = true, true = true]) TLoop_holds rfl 300 rfl [.b true, .v (.int .i64 x0), .b false, .b false, .b true, .v (.int .i64 x1), .b true, .b true] (by kernel_rfl) ⟨rfl, (by decide), rfl, c1, c2, rfl, (by decide), rfl, c3, rfl, trivial⟩
    · exact Runs.script (r := .bool false) (ps := [true = true, 0 ≤ (0 : Int) ∧ (0 : Int) < (2 : Nat), takeA [.int .i64 x0, .int .i64 x1] 0 1 true = some (.int .i64 x0), (decide (x0 < lo)) = false, (decide (x0 > hi)) = true]) TLoop_holds rfl 300 rfl [.b true, .v (.int .i64 x0), .b false, .b true] (by kernel_rfl) ⟨rfl, (by decide), rfl, c1, c2, trivial⟩
  · exact Runs.script (r := .bool false) (ps := [true = true, 0 ≤ (0 : Int) ∧ (0 : Int) < (2 : Nat), takeA [.int .i64 x0, .int .i64 x1] 0 1 true = some (.int .i64 x0), (decide (x0 < lo)) = true, true = true]) TLoop_holds rfl 300 rfl [.b true, .v (.int .i64 x0), .b true, .b true] (by kernel_rfl) ⟨rfl, (by decide), rfl, c1, rfl, trivial⟩
theorem e51_2 (lo hi x0 x1 : Int) : Try.sh51_2 lo hi x0 x1 = .bool (inR lo hi x0 && inR lo hi x1) := by
  unfold Try.sh51_2 inR
  repeat' split
  all_goals (simp_all <;> omega)

def Try.sh51_3 (lo hi x0 x1 x2 : Int) : AV :=
  match decide (x0 < lo) with
  | true => (.bool false)
  | false => (match decide (x0 > hi) with
  | true => (.bool false)
  | false => (match decide (x1 < lo) with
  | true => (.bool false)
  | false => (match decide (x1 > hi) with
  | true => (.bool false)
  | false => (match decide (x2 < lo) with
  | true => (.bool false)
  | false => (match decide (x2 > hi) with
  | true => (.bool false)
  | false => (.bool true))))))
theorem Try.run51_3 (lo hi x0 x1 x2 : Int)  : Runs Try.ir 51 [.int .i64 lo, .int .i64 hi, .sl 3 [.int .i64 x0, .int .i64 x1, .int .i64 x2]] (Try.sh51_3 lo hi x0 x1 x2) := by
  unfold Try.sh51_3
  cases c1 : (decide (x0 < lo))
  · cases c2 : (decide (x0 > hi))
    · cases c3 : (decide (x1 < lo))
      · cases c4 : (decide (x1 > hi))
        · cases c5 : (decide (x2 < lo))
          · cases c6 : (decide (x2 > hi))
            · exact Runs.script (r := .bool true) (ps := [true = true, 0 ≤ (0 : Int) ∧ (0 : Int) < (3 : Nat), takeA [.int .i64 x0, .int .i64 x1, .int .i64 x2] 0 1 true = some (.int .i64 x0), (decide (x0 < lo)) = false, (decide (x0 > hi)) = false, true = true, 0 ≤ (1 : Int) ∧ (1 : Int) < (3 : Nat), takeA [.int .i64 x1, .int .i64 x2] 0 1 true = some (.int .i64 x1), (decide (x1 < lo)) = false, (decide (x1 > hi)) = false, true = true, 0 ≤ (2 : Int) ∧ (2 : Int) < (3 : Nat), takeA [.int .i64 x2] 0 1 true = some (.int .i64 x2), (decide (x2 < lo)) = false, (decide (x2 > hi)) = false, false = false]) TLoop_holds rfl 300 rfl [.b true, .v (.int .i64 x0), .b false, .b false, .b true, .v (.int .i64 x1), .b false, .b false, .b true, .v (.int .i64 x2), .b false, .b false, .b false] (by kernel_rfl) ⟨rfl, (by decide), rfl, c1, c2, rfl, (by decide), rfl, c3, c4, rfl, (by decide), rfl, c5, c6, rfl, trivial⟩
            · exact Runs.script (r := .bool false) (ps := [true = true, 0 ≤ (0 : Int) ∧ (0 : Int) < (3 : Nat), takeA [.int .i64 x0, .int .i64 x1, .int .i64 x2] 0 1 true = some (.int .i64 x0), (decide (x0 < lo)) = false, (decide (x0 > hi)) = false, true = true, 0 ≤ (1 : Int) ∧ (1 : Int) < (3 : Nat), takeA [.int .i64 x1, .int .i64 x2] 0 1 true = some (.int .i64 x1), (decide (x1 < lo)) = false, (decide (x1 > hi)) = false, true = true, 0 ≤ (2 : Int) ∧ (2 : Int) < (3 : Nat), takeA [.int .i64 x2] 0 1 true = some (.int .i64 x2), (decide (x2 < lo)) = false, (decide (x2 > hi)) = true]) TLoop_holds rfl 300 rfl [.b true, .v (.int .i64 x0), .b false, .b false, .b true, .v (.int .i64 x1), .b false, .b false, .b true, .v (.int .i64 x2), .b false, .b true] (by kernel_rfl) ⟨rfl, (by decide), rfl, c1, c2, rfl, (by decide), rfl, c3, c4, rfl, (by decide), rfl, c5, c6, trivial⟩
          · exact Runs.script (r := .bool false) (ps := [true = true, 0 ≤ (0 : Int) ∧ (0 : Int) < (3 : Nat), takeA [.int .i64 x0, .int .i64 x1, .int .i64 x2] 0 1 true = some (.int .i64 x0), (decide (x0 < lo)) = false, (decide (x0 > hi)) = false, true = true, 0 ≤ (1 : Int) ∧ (1 : Int) < (3 : Nat), takeA [.int .i64 x1, .int .i64 x2] 0 1 true = some (.int .i64 x1), (decide (x1 < lo)) = false, (decide (x1 > hi)) = false, true = true, 0 ≤ (2 : Int) ∧ (2 : Int) < (3 : Nat), takeA [.int .i64 x2] 0 1 true = some (.int .i64 x2), (decide (x2 < lo)) = true, true = true]) TLoop_holds rfl 300 rfl [.b true, .v (.int .i64 x0), .b false, .b false, .b true, .v (.int .i64 x1), .b false, .b false, .b true, .v (.int .i64 x2), .b true, .b true] (by kernel_rfl) ⟨rfl, (by decide), rfl, c1, c2, rfl, (by decide), rfl, c3, c4, rfl, (by decide), rfl, c5, rfl, trivial⟩
        · exact Runs.script (r := .bool false) (ps := [true = true, 0 ≤ (0 : Int) ∧ (0 : Int) < (3 : Nat), takeA [.int .i64 x0, .int .i64 x1, .int .i64 x2] 0 1 true = some (.int .i64 x0), (decide (x0 < lo)) = false, (decide (x0 > hi)) = false, true = true, 0 ≤ (1 : Int) ∧ (1 : Int) < (3 : Nat), takeA [.int .i64 x1, .int .i64 x2] 0 1 true = some (.int .i64 x1), (decide (x1 < lo)) = false, (decide (x1 > hi)) = true]) TLoop_holds rfl 300 rfl [.b true, .v (.int .i64 x0), .b false, .b false, .b true, .v (.int .i64 x1), .b false, .b true] (by kernel_rfl) ⟨rfl, (by decide), rfl, c1, c2, rfl, (by decide), rfl, c3, c4, trivial⟩
      · exact Runs.script (r := .bool false) (ps := [true = true, 0 ≤ (0 : Int) ∧ (0 : Int) < (3 : Nat), takeA [.int .i64 x0, .int .i64 x1, .int .i64 x2] 0 1 true = some (.int .i64 x0), (decide (x0 < lo)) = false, (decide (x0 > hi)) = false, true = true, 0 ≤ (1 : Int) ∧ (1 : Int) < (3 : Nat), takeA [.int .i64 x1, .int .i64 x2] 0 1 true = some (.int .i64 x1), (decide (x1 < lo)) = true, true = true]) TLoop_holds rfl 300 rfl [.b true, .v (.int .i64 x0), .b false, .b false, .b true, .v (.int .i64 x1), .b true, .b true] (by kernel_rfl) ⟨rfl, (by decide), rfl, c1, c2, rfl, (by decide), rfl, c3, rfl, trivial⟩
    · exact Runs.script (r := .bool false) (ps := [true = true, 0 ≤ (0 : Int) ∧ (0 : Int) < (3 : Nat), takeA [.int .i64 x0, .int .i64 x1, .int .i64 x2] 0 1 true = some (.int .i64 x0), (decide (x0 < lo)) = false, (decide (x0 > hi)) = true]) TLoop_holds rfl 300 rfl [.b true, .v (.int .i64 x0), .b false, .b true] (by kernel_rfl) ⟨rfl, (by decide), rfl, c1, c2, trivial⟩
  · exact Runs.script (r := .bool false) (ps := [true = true, 0 ≤ (0 : Int) ∧ (0 : Int) < (3 : Nat), takeA [.int .i64 x0, .int .i64 x1, .int .i64 x2] 0 1 true = some (.int .i64 x0), (decide (x0 < lo)) = true, true = true]) TLoop_holds rfl 300 rfl [.b true, .v (.int .i64 x0), .b true, .b true] (by kernel_rfl) ⟨rfl, (by decide), rfl, c1, rfl, trivial⟩
theorem e51_3 (lo hi x0 x1 x2 : Int) : Try.sh51_3 lo hi x0 x1 x2 = .bool (inR lo hi x0 && inR lo hi x1 && inR lo hi x2) := by
  unfold Try.sh51_3 inR
  repeat' split
  all_goals (simp_all <;> omega)

def g51 : List AV → Option (AV × List Prop)
  | [.int .i64 lo, .int .i64 hi, .sl 1 [.int .i64 x0]] => some (.bool (inR lo hi x0), [])
  | [.int .i64 lo, .int .i64 hi, .sl 2 [.int .i64 x0, .int .i64 x1]] => some (.bool (inR lo hi x0 && inR lo hi x1), [])
  | [.int .i64 lo, .int .i64 hi, .sl 3 [.int .i64 x0, .int .i64 x1, .int .i64 x2]] => some (.bool (inR lo hi x0 && inR lo hi x1 && inR lo hi x2), [])
  | _ => none
def TF1 : Table := (51, g51) :: TLoop
theorem TF1_holds : THolds Try.ir TF1 := THolds.cons TLoop_holds (by
  intro args r ps h hp
  unfold g51 at h
  split at h
  · cases h; exact e51_1 _ _ _  ▸ Try.run51_1 _ _ _ 
  · cases h; exact e51_2 _ _ _ _  ▸ Try.run51_2 _ _ _ _ 
  · cases h; exact e51_3 _ _ _ _ _  ▸ Try.run51_3 _ _ _ _ _ 
  · cases h)

def permB (px py ln lo hi up dn mx : Int) : Bool := inR (-1048576) 1048576 px && inR (-1048576) 1048576 py && inR 1 262144 ln && inR (-256) 256 lo && inR (-256) 256 hi && decide (lo < hi) && inR 1 64 up && inR 1 64 dn && inR 1 64 mx && decide (IntKind.i64.wrap (mx * ln) ≤ 2097152)

def perm1 (px py ln lo hi up dn mx k0 : Int) : Bool :=
  match inR (-1048576) 1048576 px && inR (-1048576) 1048576 py with
  | true => (match inR 1 262144 ln with
  | true => (match inR (-256) 256 lo && inR (-256) 256 hi with
  | true => (match decide (lo < hi) with
  | true => (match inR 1 64 up && inR 1 64 dn && inR 1 64 mx with
  | true => (match decide ((IntKind.i64.wrap (mx * ln)) ≤ 2097152) with
  | true => ((inR (-256) 256 k0))
  | false => (false))
  | false => (false))
  | false => (false))
  | false => (false))
  | false => (false))
  | false => (false)
theorem Try.run50_1 (nm : ByteArray) (lv px py ln : Int) (mi : Bool) (lo hi up dn mx rs gr co sw k0 : Int)  : Runs Try.ir 50 [.agg [.str nm, .int .i64 lv, .int .i64 px, .int .i64 py, .int .i64 ln, .bool mi, .int .i64 lo, .int .i64 hi, .int .i64 up, .int .i64 dn, .int .i64 mx, .int .i64 rs, .int .i64 gr, .int .i64 co, .int .i64 sw], .sl 1 [.int .i64 k0]] (.bool (perm1 px py ln lo hi up dn mx k0)) := by
  unfold perm1
  cases c1 : (inR (-1048576) 1048576 px && inR (-1048576) 1048576 py)
  · exact Runs.script (r := .bool false) (ps := [(inR (-1048576) 1048576 px && inR (-1048576) 1048576 py) = false, false = false, false = false, false = false, false = false, false = false]) TF1_holds rfl 300 rfl [.b false, .b false, .b false, .b false, .b false, .b false] (by kernel_rfl) ⟨c1, rfl, rfl, rfl, rfl, rfl, trivial⟩
  · cases c2 : (inR 1 262144 ln)
    · exact Runs.script (r := .bool false) (ps := [(inR (-1048576) 1048576 px && inR (-1048576) 1048576 py) = true, (inR 1 262144 ln) = false, false = false, false = false, false = false, false = false]) TF1_holds rfl 300 rfl [.b true, .b false, .b false, .b false, .b false, .b false] (by kernel_rfl) ⟨c1, c2, rfl, rfl, rfl, rfl, trivial⟩
    · cases c3 : (inR (-256) 256 lo && inR (-256) 256 hi)
      · exact Runs.script (r := .bool false) (ps := [(inR (-1048576) 1048576 px && inR (-1048576) 1048576 py) = true, (inR 1 262144 ln) = true, (inR (-256) 256 lo && inR (-256) 256 hi) = false, false = false, false = false, false = false]) TF1_holds rfl 300 rfl [.b true, .b true, .b false, .b false, .b false, .b false] (by kernel_rfl) ⟨c1, c2, c3, rfl, rfl, rfl, trivial⟩
      · cases c4 : (decide (lo < hi))
        · exact Runs.script (r := .bool false) (ps := [(inR (-1048576) 1048576 px && inR (-1048576) 1048576 py) = true, (inR 1 262144 ln) = true, (inR (-256) 256 lo && inR (-256) 256 hi) = true, (decide (lo < hi)) = false, false = false, false = false]) TF1_holds rfl 300 rfl [.b true, .b true, .b true, .b false, .b false, .b false] (by kernel_rfl) ⟨c1, c2, c3, c4, rfl, rfl, trivial⟩
        · cases c5 : (inR 1 64 up && inR 1 64 dn && inR 1 64 mx)
          · exact Runs.script (r := .bool false) (ps := [(inR (-1048576) 1048576 px && inR (-1048576) 1048576 py) = true, (inR 1 262144 ln) = true, (inR (-256) 256 lo && inR (-256) 256 hi) = true, (decide (lo < hi)) = true, (inR 1 64 up && inR 1 64 dn && inR 1 64 mx) = false, false = false]) TF1_holds rfl 300 rfl [.b true, .b true, .b true, .b true, .b false, .b false] (by kernel_rfl) ⟨c1, c2, c3, c4, c5, rfl, trivial⟩
          · cases c6 : (decide ((IntKind.i64.wrap (mx * ln)) ≤ 2097152))
            · exact Runs.script (r := .bool false) (ps := [(inR (-1048576) 1048576 px && inR (-1048576) 1048576 py) = true, (inR 1 262144 ln) = true, (inR (-256) 256 lo && inR (-256) 256 hi) = true, (decide (lo < hi)) = true, (inR 1 64 up && inR 1 64 dn && inR 1 64 mx) = true, (decide ((IntKind.i64.wrap (mx * ln)) ≤ 2097152)) = false]) TF1_holds rfl 300 rfl [.b true, .b true, .b true, .b true, .b true, .b false] (by kernel_rfl) ⟨c1, c2, c3, c4, c5, c6, trivial⟩
            · exact Runs.script (r := .bool (inR (-256) 256 k0)) (ps := [(inR (-1048576) 1048576 px && inR (-1048576) 1048576 py) = true, (inR 1 262144 ln) = true, (inR (-256) 256 lo && inR (-256) 256 hi) = true, (decide (lo < hi)) = true, (inR 1 64 up && inR 1 64 dn && inR 1 64 mx) = true, (decide ((IntKind.i64.wrap (mx * ln)) ≤ 2097152)) = true]) TF1_holds rfl 300 rfl [.b true, .b true, .b true, .b true, .b true, .b true] (by kernel_rfl) ⟨c1, c2, c3, c4, c5, c6, trivial⟩

theorem perm1_eq (px py ln lo hi up dn mx k0 : Int) : perm1 px py ln lo hi up dn mx k0 = (permB px py ln lo hi up dn mx && inR (-256) 256 k0) := by
  unfold perm1 permB
  repeat' split
  all_goals (simp_all <;> omega)

def perm2 (px py ln lo hi up dn mx k0 k1 : Int) : Bool :=
  match inR (-1048576) 1048576 px && inR (-1048576) 1048576 py with
  | true => (match inR 1 262144 ln with
  | true => (match inR (-256) 256 lo && inR (-256) 256 hi with
  | true => (match decide (lo < hi) with
  | true => (match inR 1 64 up && inR 1 64 dn && inR 1 64 mx with
  | true => (match decide ((IntKind.i64.wrap (mx * ln)) ≤ 2097152) with
  | true => ((inR (-256) 256 k0 && inR (-256) 256 k1))
  | false => (false))
  | false => (false))
  | false => (false))
  | false => (false))
  | false => (false))
  | false => (false)
theorem Try.run50_2 (nm : ByteArray) (lv px py ln : Int) (mi : Bool) (lo hi up dn mx rs gr co sw k0 k1 : Int)  : Runs Try.ir 50 [.agg [.str nm, .int .i64 lv, .int .i64 px, .int .i64 py, .int .i64 ln, .bool mi, .int .i64 lo, .int .i64 hi, .int .i64 up, .int .i64 dn, .int .i64 mx, .int .i64 rs, .int .i64 gr, .int .i64 co, .int .i64 sw], .sl 2 [.int .i64 k0, .int .i64 k1]] (.bool (perm2 px py ln lo hi up dn mx k0 k1)) := by
  unfold perm2
  cases c1 : (inR (-1048576) 1048576 px && inR (-1048576) 1048576 py)
  · exact Runs.script (r := .bool false) (ps := [(inR (-1048576) 1048576 px && inR (-1048576) 1048576 py) = false, false = false, false = false, false = false, false = false, false = false]) TF1_holds rfl 300 rfl [.b false, .b false, .b false, .b false, .b false, .b false] (by kernel_rfl) ⟨c1, rfl, rfl, rfl, rfl, rfl, trivial⟩
  · cases c2 : (inR 1 262144 ln)
    · exact Runs.script (r := .bool false) (ps := [(inR (-1048576) 1048576 px && inR (-1048576) 1048576 py) = true, (inR 1 262144 ln) = false, false = false, false = false, false = false, false = false]) TF1_holds rfl 300 rfl [.b true, .b false, .b false, .b false, .b false, .b false] (by kernel_rfl) ⟨c1, c2, rfl, rfl, rfl, rfl, trivial⟩
    · cases c3 : (inR (-256) 256 lo && inR (-256) 256 hi)
      · exact Runs.script (r := .bool false) (ps := [(inR (-1048576) 1048576 px && inR (-1048576) 1048576 py) = true, (inR 1 262144 ln) = true, (inR (-256) 256 lo && inR (-256) 256 hi) = false, false = false, false = false, false = false]) TF1_holds rfl 300 rfl [.b true, .b true, .b false, .b false, .b false, .b false] (by kernel_rfl) ⟨c1, c2, c3, rfl, rfl, rfl, trivial⟩
      · cases c4 : (decide (lo < hi))
        · exact Runs.script (r := .bool false) (ps := [(inR (-1048576) 1048576 px && inR (-1048576) 1048576 py) = true, (inR 1 262144 ln) = true, (inR (-256) 256 lo && inR (-256) 256 hi) = true, (decide (lo < hi)) = false, false = false, false = false]) TF1_holds rfl 300 rfl [.b true, .b true, .b true, .b false, .b false, .b false] (by kernel_rfl) ⟨c1, c2, c3, c4, rfl, rfl, trivial⟩
        · cases c5 : (inR 1 64 up && inR 1 64 dn && inR 1 64 mx)
          · exact Runs.script (r := .bool false) (ps := [(inR (-1048576) 1048576 px && inR (-1048576) 1048576 py) = true, (inR 1 262144 ln) = true, (inR (-256) 256 lo && inR (-256) 256 hi) = true, (decide (lo < hi)) = true, (inR 1 64 up && inR 1 64 dn && inR 1 64 mx) = false, false = false]) TF1_holds rfl 300 rfl [.b true, .b true, .b true, .b true, .b false, .b false] (by kernel_rfl) ⟨c1, c2, c3, c4, c5, rfl, trivial⟩
          · cases c6 : (decide ((IntKind.i64.wrap (mx * ln)) ≤ 2097152))
            · exact Runs.script (r := .bool false) (ps := [(inR (-1048576) 1048576 px && inR (-1048576) 1048576 py) = true, (inR 1 262144 ln) = true, (inR (-256) 256 lo && inR (-256) 256 hi) = true, (decide (lo < hi)) = true, (inR 1 64 up && inR 1 64 dn && inR 1 64 mx) = true, (decide ((IntKind.i64.wrap (mx * ln)) ≤ 2097152)) = false]) TF1_holds rfl 300 rfl [.b true, .b true, .b true, .b true, .b true, .b false] (by kernel_rfl) ⟨c1, c2, c3, c4, c5, c6, trivial⟩
            · exact Runs.script (r := .bool (inR (-256) 256 k0 && inR (-256) 256 k1)) (ps := [(inR (-1048576) 1048576 px && inR (-1048576) 1048576 py) = true, (inR 1 262144 ln) = true, (inR (-256) 256 lo && inR (-256) 256 hi) = true, (decide (lo < hi)) = true, (inR 1 64 up && inR 1 64 dn && inR 1 64 mx) = true, (decide ((IntKind.i64.wrap (mx * ln)) ≤ 2097152)) = true]) TF1_holds rfl 300 rfl [.b true, .b true, .b true, .b true, .b true, .b true] (by kernel_rfl) ⟨c1, c2, c3, c4, c5, c6, trivial⟩

theorem perm2_eq (px py ln lo hi up dn mx k0 k1 : Int) : perm2 px py ln lo hi up dn mx k0 k1 = (permB px py ln lo hi up dn mx && inR (-256) 256 k0 && inR (-256) 256 k1) := by
  unfold perm2 permB
  repeat' split
  all_goals (simp_all <;> omega)

def g50 : List AV → Option (AV × List Prop)
  | [.agg [.str _, .int .i64 _, .int .i64 px, .int .i64 py, .int .i64 ln, .bool _, .int .i64 lo, .int .i64 hi, .int .i64 up, .int .i64 dn, .int .i64 mx, .int .i64 _, .int .i64 _, .int .i64 _, .int .i64 _], .sl 1 [.int .i64 k0]] => some (.bool (permB px py ln lo hi up dn mx && inR (-256) 256 k0), [])
  | [.agg [.str _, .int .i64 _, .int .i64 px, .int .i64 py, .int .i64 ln, .bool _, .int .i64 lo, .int .i64 hi, .int .i64 up, .int .i64 dn, .int .i64 mx, .int .i64 _, .int .i64 _, .int .i64 _, .int .i64 _], .sl 2 [.int .i64 k0, .int .i64 k1]] => some (.bool (permB px py ln lo hi up dn mx && inR (-256) 256 k0 && inR (-256) 256 k1), [])
  | _ => none
def TF2 : Table := (50, g50) :: TF1
theorem TF2_holds : THolds Try.ir TF2 := THolds.cons TF1_holds (by
  intro args r ps h hp
  unfold g50 at h
  split at h
  · cases h; exact perm1_eq _ _ _ _ _ _ _ _ _  ▸ Try.run50_1 _ _ _ _ _ _ _ _ _ _ _ _ _ _ _ _ 
  · cases h; exact perm2_eq _ _ _ _ _ _ _ _ _ _  ▸ Try.run50_2 _ _ _ _ _ _ _ _ _ _ _ _ _ _ _ _ _ 
  · cases h)

def nextI (px py ln lo hi up dn mx k speed : Int) (on : Bool) : Int × Int :=
  match permB px py ln lo hi up dn mx && inR (-256) 256 k with
  | true => (match inR (-64) 64 speed with
  | true => (match on with
  | true => (match decide ((IntKind.i64.wrap (k + (if mx < (IntKind.i64.wrap (speed + up)) then mx else (IntKind.i64.wrap (speed + up))))) > hi) with
  | true => ((hi, 0))
  | false => (match decide ((IntKind.i64.wrap (k + (if mx < (IntKind.i64.wrap (speed + up)) then mx else (IntKind.i64.wrap (speed + up))))) < lo) with
  | true => ((lo, 0))
  | false => ((IntKind.i64.wrap (k + (if mx < (IntKind.i64.wrap (speed + up)) then mx else (IntKind.i64.wrap (speed + up)))), (if mx < (IntKind.i64.wrap (speed + up)) then mx else (IntKind.i64.wrap (speed + up)))))))
  | false => (match decide ((IntKind.i64.wrap (k + (if (IntKind.i64.wrap (0 - mx)) > (IntKind.i64.wrap (speed - dn)) then (IntKind.i64.wrap (0 - mx)) else (IntKind.i64.wrap (speed - dn))))) > hi) with
  | true => ((hi, 0))
  | false => (match decide ((IntKind.i64.wrap (k + (if (IntKind.i64.wrap (0 - mx)) > (IntKind.i64.wrap (speed - dn)) then (IntKind.i64.wrap (0 - mx)) else (IntKind.i64.wrap (speed - dn))))) < lo) with
  | true => ((lo, 0))
  | false => ((IntKind.i64.wrap (k + (if (IntKind.i64.wrap (0 - mx)) > (IntKind.i64.wrap (speed - dn)) then (IntKind.i64.wrap (0 - mx)) else (IntKind.i64.wrap (speed - dn)))), (if (IntKind.i64.wrap (0 - mx)) > (IntKind.i64.wrap (speed - dn)) then (IntKind.i64.wrap (0 - mx)) else (IntKind.i64.wrap (speed - dn))))))))
  | false => ((0, 0)))
  | false => ((0, 0))
theorem Try.run20 (nm : ByteArray) (lv px py ln : Int) (mi : Bool) (lo hi up dn mx rs gr co sw k speed : Int) (on : Bool)  : Runs Try.ir 20 [.agg [.str nm, .int .i64 lv, .int .i64 px, .int .i64 py, .int .i64 ln, .bool mi, .int .i64 lo, .int .i64 hi, .int .i64 up, .int .i64 dn, .int .i64 mx, .int .i64 rs, .int .i64 gr, .int .i64 co, .int .i64 sw], .int .i64 k, .int .i64 speed, .bool on] (.tup [.int .i64 ((nextI px py ln lo hi up dn mx k speed on).1), .int .i64 ((nextI px py ln lo hi up dn mx k speed on).2)]) := by
  unfold nextI
  cases c1 : (permB px py ln lo hi up dn mx && inR (-256) 256 k)
  · exact Runs.script (r := .tup [.int .i64 0, .int .i64 0]) (ps := [(!(permB px py ln lo hi up dn mx && inR (-256) 256 k)) = true, true = true]) TF2_holds rfl 300 rfl [.b true, .b true] (by kernel_rfl) ⟨(by rw [c1]; rfl), rfl, trivial⟩
  · cases c2 : (inR (-64) 64 speed)
    · exact Runs.script (r := .tup [.int .i64 0, .int .i64 0]) (ps := [(!(permB px py ln lo hi up dn mx && inR (-256) 256 k)) = false, (!(inR (-64) 64 speed)) = true]) TF2_holds rfl 300 rfl [.b false, .b true] (by kernel_rfl) ⟨(by rw [c1]; rfl), (by rw [c2]; rfl), trivial⟩
    · cases on
      · cases c4 : (decide ((IntKind.i64.wrap (k + (if (IntKind.i64.wrap (0 - mx)) > (IntKind.i64.wrap (speed - dn)) then (IntKind.i64.wrap (0 - mx)) else (IntKind.i64.wrap (speed - dn))))) > hi))
        · cases c5 : (decide ((IntKind.i64.wrap (k + (if (IntKind.i64.wrap (0 - mx)) > (IntKind.i64.wrap (speed - dn)) then (IntKind.i64.wrap (0 - mx)) else (IntKind.i64.wrap (speed - dn))))) < lo))
          · exact Runs.script (r := .tup [.int .i64 (IntKind.i64.wrap (k + (if (IntKind.i64.wrap (0 - mx)) > (IntKind.i64.wrap (speed - dn)) then (IntKind.i64.wrap (0 - mx)) else (IntKind.i64.wrap (speed - dn))))), .int .i64 (if (IntKind.i64.wrap (0 - mx)) > (IntKind.i64.wrap (speed - dn)) then (IntKind.i64.wrap (0 - mx)) else (IntKind.i64.wrap (speed - dn)))]) (ps := [(!(permB px py ln lo hi up dn mx && inR (-256) 256 k)) = false, (!(inR (-64) 64 speed)) = false, false = false, (decide ((IntKind.i64.wrap (k + (if (IntKind.i64.wrap (0 - mx)) > (IntKind.i64.wrap (speed - dn)) then (IntKind.i64.wrap (0 - mx)) else (IntKind.i64.wrap (speed - dn))))) > hi)) = false, (decide ((IntKind.i64.wrap (k + (if (IntKind.i64.wrap (0 - mx)) > (IntKind.i64.wrap (speed - dn)) then (IntKind.i64.wrap (0 - mx)) else (IntKind.i64.wrap (speed - dn))))) < lo)) = false]) TF2_holds rfl 300 rfl [.b false, .b false, .b false, .b false, .b false] (by kernel_rfl) ⟨(by rw [c1]; rfl), (by rw [c2]; rfl), rfl, c4, c5, trivial⟩
          · exact Runs.script (r := .tup [.int .i64 lo, .int .i64 0]) (ps := [(!(permB px py ln lo hi up dn mx && inR (-256) 256 k)) = false, (!(inR (-64) 64 speed)) = false, false = false, (decide ((IntKind.i64.wrap (k + (if (IntKind.i64.wrap (0 - mx)) > (IntKind.i64.wrap (speed - dn)) then (IntKind.i64.wrap (0 - mx)) else (IntKind.i64.wrap (speed - dn))))) > hi)) = false, (decide ((IntKind.i64.wrap (k + (if (IntKind.i64.wrap (0 - mx)) > (IntKind.i64.wrap (speed - dn)) then (IntKind.i64.wrap (0 - mx)) else (IntKind.i64.wrap (speed - dn))))) < lo)) = true]) TF2_holds rfl 300 rfl [.b false, .b false, .b false, .b false, .b true] (by kernel_rfl) ⟨(by rw [c1]; rfl), (by rw [c2]; rfl), rfl, c4, c5, trivial⟩
        · exact Runs.script (r := .tup [.int .i64 hi, .int .i64 0]) (ps := [(!(permB px py ln lo hi up dn mx && inR (-256) 256 k)) = false, (!(inR (-64) 64 speed)) = false, false = false, (decide ((IntKind.i64.wrap (k + (if (IntKind.i64.wrap (0 - mx)) > (IntKind.i64.wrap (speed - dn)) then (IntKind.i64.wrap (0 - mx)) else (IntKind.i64.wrap (speed - dn))))) > hi)) = true]) TF2_holds rfl 300 rfl [.b false, .b false, .b false, .b true] (by kernel_rfl) ⟨(by rw [c1]; rfl), (by rw [c2]; rfl), rfl, c4, trivial⟩
      · cases c4 : (decide ((IntKind.i64.wrap (k + (if mx < (IntKind.i64.wrap (speed + up)) then mx else (IntKind.i64.wrap (speed + up))))) > hi))
        · cases c5 : (decide ((IntKind.i64.wrap (k + (if mx < (IntKind.i64.wrap (speed + up)) then mx else (IntKind.i64.wrap (speed + up))))) < lo))
          · exact Runs.script (r := .tup [.int .i64 (IntKind.i64.wrap (k + (if mx < (IntKind.i64.wrap (speed + up)) then mx else (IntKind.i64.wrap (speed + up))))), .int .i64 (if mx < (IntKind.i64.wrap (speed + up)) then mx else (IntKind.i64.wrap (speed + up)))]) (ps := [(!(permB px py ln lo hi up dn mx && inR (-256) 256 k)) = false, (!(inR (-64) 64 speed)) = false, true = true, (decide ((IntKind.i64.wrap (k + (if mx < (IntKind.i64.wrap (speed + up)) then mx else (IntKind.i64.wrap (speed + up))))) > hi)) = false, (decide ((IntKind.i64.wrap (k + (if mx < (IntKind.i64.wrap (speed + up)) then mx else (IntKind.i64.wrap (speed + up))))) < lo)) = false]) TF2_holds rfl 300 rfl [.b false, .b false, .b true, .b false, .b false] (by kernel_rfl) ⟨(by rw [c1]; rfl), (by rw [c2]; rfl), rfl, c4, c5, trivial⟩
          · exact Runs.script (r := .tup [.int .i64 lo, .int .i64 0]) (ps := [(!(permB px py ln lo hi up dn mx && inR (-256) 256 k)) = false, (!(inR (-64) 64 speed)) = false, true = true, (decide ((IntKind.i64.wrap (k + (if mx < (IntKind.i64.wrap (speed + up)) then mx else (IntKind.i64.wrap (speed + up))))) > hi)) = false, (decide ((IntKind.i64.wrap (k + (if mx < (IntKind.i64.wrap (speed + up)) then mx else (IntKind.i64.wrap (speed + up))))) < lo)) = true]) TF2_holds rfl 300 rfl [.b false, .b false, .b true, .b false, .b true] (by kernel_rfl) ⟨(by rw [c1]; rfl), (by rw [c2]; rfl), rfl, c4, c5, trivial⟩
        · exact Runs.script (r := .tup [.int .i64 hi, .int .i64 0]) (ps := [(!(permB px py ln lo hi up dn mx && inR (-256) 256 k)) = false, (!(inR (-64) 64 speed)) = false, true = true, (decide ((IntKind.i64.wrap (k + (if mx < (IntKind.i64.wrap (speed + up)) then mx else (IntKind.i64.wrap (speed + up))))) > hi)) = true]) TF2_holds rfl 300 rfl [.b false, .b false, .b true, .b true] (by kernel_rfl) ⟨(by rw [c1]; rfl), (by rw [c2]; rfl), rfl, c4, trivial⟩

def g20 : List AV → Option (AV × List Prop)
  | [.agg [.str _, .int .i64 _, .int .i64 px, .int .i64 py, .int .i64 ln, .bool _, .int .i64 lo, .int .i64 hi, .int .i64 up, .int .i64 dn, .int .i64 mx, .int .i64 _, .int .i64 _, .int .i64 _, .int .i64 _], .int .i64 k, .int .i64 speed, .bool on] => some (.tup [.int .i64 ((nextI px py ln lo hi up dn mx k speed on).1), .int .i64 ((nextI px py ln lo hi up dn mx k speed on).2)], [])
  | _ => none
def TF3 : Table := (20, g20) :: TF2
theorem TF3_holds : THolds Try.ir TF3 := THolds.cons TF2_holds (by
  intro args r ps h hp
  unfold g20 at h
  split at h
  · cases h; exact Try.run20 _ _ _ _ _ _ _ _ _ _ _ _ _ _ _ _ _ _ 
  · cases h)

def turnedI (mi : Bool) (k b : Int) : Int × Int × Int :=
  match mi with
  | true => ((IntKind.i64.wrap (0 - (IntKind.i64.wrap ((IntKind.i64.wrap (b * b)) - (IntKind.i64.wrap (k * k))))), IntKind.i64.wrap ((IntKind.i64.wrap (2 * b)) * k), IntKind.i64.wrap ((IntKind.i64.wrap (b * b)) + (IntKind.i64.wrap (k * k)))))
  | false => ((IntKind.i64.wrap ((IntKind.i64.wrap (b * b)) - (IntKind.i64.wrap (k * k))), IntKind.i64.wrap ((IntKind.i64.wrap (2 * b)) * k), IntKind.i64.wrap ((IntKind.i64.wrap (b * b)) + (IntKind.i64.wrap (k * k)))))
theorem Try.run53 (nm : ByteArray) (lv px py ln : Int) (mi : Bool) (lo hi up dn mx rs gr co sw k b : Int)  : Runs Try.ir 53 [.agg [.str nm, .int .i64 lv, .int .i64 px, .int .i64 py, .int .i64 ln, .bool mi, .int .i64 lo, .int .i64 hi, .int .i64 up, .int .i64 dn, .int .i64 mx, .int .i64 rs, .int .i64 gr, .int .i64 co, .int .i64 sw], .int .i64 k, .int .i64 b] (.tup [.agg [.int .i64 ((turnedI mi k b).1), .int .i64 ((turnedI mi k b).2.1)], .int .i64 ((turnedI mi k b).2.2)]) := by
  unfold turnedI
  cases mi
  · exact Runs.script (r := .tup [.agg [.int .i64 (IntKind.i64.wrap ((IntKind.i64.wrap (b * b)) - (IntKind.i64.wrap (k * k)))), .int .i64 (IntKind.i64.wrap ((IntKind.i64.wrap (2 * b)) * k))], .int .i64 (IntKind.i64.wrap ((IntKind.i64.wrap (b * b)) + (IntKind.i64.wrap (k * k))))]) (ps := [false = false]) TF3_holds rfl 300 rfl [.b false] (by kernel_rfl) ⟨rfl, trivial⟩
  · exact Runs.script (r := .tup [.agg [.int .i64 (IntKind.i64.wrap (0 - (IntKind.i64.wrap ((IntKind.i64.wrap (b * b)) - (IntKind.i64.wrap (k * k)))))), .int .i64 (IntKind.i64.wrap ((IntKind.i64.wrap (2 * b)) * k))], .int .i64 (IntKind.i64.wrap ((IntKind.i64.wrap (b * b)) + (IntKind.i64.wrap (k * k))))]) (ps := [true = true]) TF3_holds rfl 300 rfl [.b true] (by kernel_rfl) ⟨rfl, trivial⟩

def g53 : List AV → Option (AV × List Prop)
  | [.agg [.str _, .int .i64 _, .int .i64 _, .int .i64 _, .int .i64 _, .bool mi, .int .i64 _, .int .i64 _, .int .i64 _, .int .i64 _, .int .i64 _, .int .i64 _, .int .i64 _, .int .i64 _, .int .i64 _], .int .i64 k, .int .i64 b] => some (.tup [.agg [.int .i64 ((turnedI mi k b).1), .int .i64 ((turnedI mi k b).2.1)], .int .i64 ((turnedI mi k b).2.2)], [])
  | _ => none
def TF4 : Table := (53, g53) :: TF3
theorem TF4_holds : THolds Try.ir TF4 := THolds.cons TF3_holds (by
  intro args r ps h hp
  unfold g53 at h
  split at h
  · cases h; exact Try.run53 _ _ _ _ _ _ _ _ _ _ _ _ _ _ _ _ _ 
  · cases h)

def direction (px py ln : Int) (mi : Bool) (lo hi up dn mx k : Int) : Int × Int × Int :=
  match permB px py ln lo hi up dn mx && inR (-256) 256 k with
  | true => (((turnedI mi k 256).1, (turnedI mi k 256).2.1, (turnedI mi k 256).2.2))
  | false => ((0, 0, 0))
theorem Try.run22 (nm : ByteArray) (lv px py ln : Int) (mi : Bool) (lo hi up dn mx rs gr co sw k : Int)  : Runs Try.ir 22 [.agg [.str nm, .int .i64 lv, .int .i64 px, .int .i64 py, .int .i64 ln, .bool mi, .int .i64 lo, .int .i64 hi, .int .i64 up, .int .i64 dn, .int .i64 mx, .int .i64 rs, .int .i64 gr, .int .i64 co, .int .i64 sw], .int .i64 k] (.tup [.agg [.int .i64 ((direction px py ln mi lo hi up dn mx k).1), .int .i64 ((direction px py ln mi lo hi up dn mx k).2.1)], .int .i64 ((direction px py ln mi lo hi up dn mx k).2.2)]) := by
  unfold direction
  cases c1 : (permB px py ln lo hi up dn mx && inR (-256) 256 k)
  · exact Runs.script (r := .tup [.agg [.int .i64 0, .int .i64 0], .int .i64 0]) (ps := [(!(permB px py ln lo hi up dn mx && inR (-256) 256 k)) = true]) TF4_holds rfl 300 rfl [.b true] (by kernel_rfl) ⟨(by rw [c1]; rfl), trivial⟩
  · exact Runs.script (r := .tup [.agg [.int .i64 ((turnedI mi k 256).1), .int .i64 ((turnedI mi k 256).2.1)], .int .i64 ((turnedI mi k 256).2.2)]) (ps := [(!(permB px py ln lo hi up dn mx && inR (-256) 256 k)) = false]) TF4_holds rfl 300 rfl [.b false] (by kernel_rfl) ⟨(by rw [c1]; rfl), trivial⟩

def g22 : List AV → Option (AV × List Prop)
  | [.agg [.str _, .int .i64 _, .int .i64 px, .int .i64 py, .int .i64 ln, .bool mi, .int .i64 lo, .int .i64 hi, .int .i64 up, .int .i64 dn, .int .i64 mx, .int .i64 _, .int .i64 _, .int .i64 _, .int .i64 _], .int .i64 k] => some (.tup [.agg [.int .i64 ((direction px py ln mi lo hi up dn mx k).1), .int .i64 ((direction px py ln mi lo hi up dn mx k).2.1)], .int .i64 ((direction px py ln mi lo hi up dn mx k).2.2)], [])
  | _ => none
def TF5 : Table := (22, g22) :: TF4
theorem TF5_holds : THolds Try.ir TF5 := THolds.cons TF4_holds (by
  intro args r ps h hp
  unfold g22 at h
  split at h
  · cases h; exact Try.run22 _ _ _ _ _ _ _ _ _ _ _ _ _ _ _ _ 
  · cases h)

def in09 (n a b : Int) : Bool :=
  match decide (n ≥ a) with
  | true => ((decide (n ≤ b)))
  | false => (false)
theorem Try.run56 (n a b : Int)  : Runs Try.ir 56 [.int .i64 n, .int .i64 a, .int .i64 b] (.bool (in09 n a b)) := by
  unfold in09
  cases c1 : (decide (n ≥ a))
  · exact Runs.script (r := .bool false) (ps := [(decide (n ≥ a)) = false]) TF5_holds rfl 300 rfl [.b false] (by kernel_rfl) ⟨c1, trivial⟩
  · exact Runs.script (r := .bool (decide (n ≤ b))) (ps := [(decide (n ≥ a)) = true]) TF5_holds rfl 300 rfl [.b true] (by kernel_rfl) ⟨c1, trivial⟩

def g56 : List AV → Option (AV × List Prop)
  | [.int .i64 n, .int .i64 a, .int .i64 b] => some (.bool (in09 n a b), [])
  | _ => none
def TF6 : Table := (56, g56) :: TF5
theorem TF6_holds : THolds Try.ir TF6 := THolds.cons TF5_holds (by
  intro args r ps h hp
  unfold g56 at h
  split at h
  · cases h; exact Try.run56 _ _ _ 
  · cases h)

def near09 (x y m : Int) : Bool :=
  match in09 x (IntKind.i64.wrap (0 - m)) m with
  | true => ((in09 y (IntKind.i64.wrap (0 - m)) m))
  | false => (false)
theorem Try.run55 (x y m : Int)  : Runs Try.ir 55 [.agg [.int .i64 x, .int .i64 y], .int .i64 m] (.bool (near09 x y m)) := by
  unfold near09
  cases c1 : (in09 x (IntKind.i64.wrap (0 - m)) m)
  · exact Runs.script (r := .bool false) (ps := [(in09 x (IntKind.i64.wrap (0 - m)) m) = false]) TF6_holds rfl 300 rfl [.b false] (by kernel_rfl) ⟨c1, trivial⟩
  · exact Runs.script (r := .bool (in09 y (IntKind.i64.wrap (0 - m)) m)) (ps := [(in09 x (IntKind.i64.wrap (0 - m)) m) = true]) TF6_holds rfl 300 rfl [.b true] (by kernel_rfl) ⟨c1, trivial⟩

def g55 : List AV → Option (AV × List Prop)
  | [.agg [.int .i64 x, .int .i64 y], .int .i64 m] => some (.bool (near09 x y m), [])
  | _ => none
def TF7 : Table := (55, g55) :: TF6
theorem TF7_holds : THolds Try.ir TF7 := THolds.cons TF6_holds (by
  intro args r ps h hp
  unfold g55 at h
  split at h
  · cases h; exact Try.run55 _ _ _ 
  · cases h)

def flips (px py ln lo hi up dn mx : Int) : Bool :=
  match near09 px py 1048576 with
  | true => (match in09 ln 1 262144 with
  | true => (match in09 lo (-256) 256 with
  | true => (match in09 hi (-256) 256 with
  | true => (match decide (lo < hi) with
  | true => (match in09 up 1 64 with
  | true => (match in09 dn 1 64 with
  | true => (match in09 mx 1 64 with
  | true => ((decide ((IntKind.i64.wrap (mx * ln)) ≤ 2097152)))
  | false => (false))
  | false => (false))
  | false => (false))
  | false => (false))
  | false => (false))
  | false => (false))
  | false => (false))
  | false => (false)
theorem Try.run24 (nm : ByteArray) (lv px py ln : Int) (mi : Bool) (lo hi up dn mx rs gr co sw : Int)  : Runs Try.ir 24 [.agg [.str nm, .int .i64 lv, .int .i64 px, .int .i64 py, .int .i64 ln, .bool mi, .int .i64 lo, .int .i64 hi, .int .i64 up, .int .i64 dn, .int .i64 mx, .int .i64 rs, .int .i64 gr, .int .i64 co, .int .i64 sw]] (.bool (flips px py ln lo hi up dn mx)) := by
  unfold flips
  cases c1 : (near09 px py 1048576)
  · exact Runs.script (r := .bool false) (ps := [(near09 px py 1048576) = false, false = false, false = false, false = false, false = false, false = false, false = false, false = false]) TF7_holds rfl 300 rfl [.b false, .b false, .b false, .b false, .b false, .b false, .b false, .b false] (by kernel_rfl) ⟨c1, rfl, rfl, rfl, rfl, rfl, rfl, rfl, trivial⟩
  · cases c2 : (in09 ln 1 262144)
    · exact Runs.script (r := .bool false) (ps := [(near09 px py 1048576) = true, (in09 ln 1 262144) = false, false = false, false = false, false = false, false = false, false = false, false = false]) TF7_holds rfl 300 rfl [.b true, .b false, .b false, .b false, .b false, .b false, .b false, .b false] (by kernel_rfl) ⟨c1, c2, rfl, rfl, rfl, rfl, rfl, rfl, trivial⟩
    · cases c3 : (in09 lo (-256) 256)
      · exact Runs.script (r := .bool false) (ps := [(near09 px py 1048576) = true, (in09 ln 1 262144) = true, (in09 lo (-256) 256) = false, false = false, false = false, false = false, false = false, false = false]) TF7_holds rfl 300 rfl [.b true, .b true, .b false, .b false, .b false, .b false, .b false, .b false] (by kernel_rfl) ⟨c1, c2, c3, rfl, rfl, rfl, rfl, rfl, trivial⟩
      · cases c4 : (in09 hi (-256) 256)
        · exact Runs.script (r := .bool false) (ps := [(near09 px py 1048576) = true, (in09 ln 1 262144) = true, (in09 lo (-256) 256) = true, (in09 hi (-256) 256) = false, false = false, false = false, false = false, false = false]) TF7_holds rfl 300 rfl [.b true, .b true, .b true, .b false, .b false, .b false, .b false, .b false] (by kernel_rfl) ⟨c1, c2, c3, c4, rfl, rfl, rfl, rfl, trivial⟩
        · cases c5 : (decide (lo < hi))
          · exact Runs.script (r := .bool false) (ps := [(near09 px py 1048576) = true, (in09 ln 1 262144) = true, (in09 lo (-256) 256) = true, (in09 hi (-256) 256) = true, (decide (lo < hi)) = false, false = false, false = false, false = false]) TF7_holds rfl 300 rfl [.b true, .b true, .b true, .b true, .b false, .b false, .b false, .b false] (by kernel_rfl) ⟨c1, c2, c3, c4, c5, rfl, rfl, rfl, trivial⟩
          · cases c6 : (in09 up 1 64)
            · exact Runs.script (r := .bool false) (ps := [(near09 px py 1048576) = true, (in09 ln 1 262144) = true, (in09 lo (-256) 256) = true, (in09 hi (-256) 256) = true, (decide (lo < hi)) = true, (in09 up 1 64) = false, false = false, false = false]) TF7_holds rfl 300 rfl [.b true, .b true, .b true, .b true, .b true, .b false, .b false, .b false] (by kernel_rfl) ⟨c1, c2, c3, c4, c5, c6, rfl, rfl, trivial⟩
            · cases c7 : (in09 dn 1 64)
              · exact Runs.script (r := .bool false) (ps := [(near09 px py 1048576) = true, (in09 ln 1 262144) = true, (in09 lo (-256) 256) = true, (in09 hi (-256) 256) = true, (decide (lo < hi)) = true, (in09 up 1 64) = true, (in09 dn 1 64) = false, false = false]) TF7_holds rfl 300 rfl [.b true, .b true, .b true, .b true, .b true, .b true, .b false, .b false] (by kernel_rfl) ⟨c1, c2, c3, c4, c5, c6, c7, rfl, trivial⟩
              · cases c8 : (in09 mx 1 64)
                · exact Runs.script (r := .bool false) (ps := [(near09 px py 1048576) = true, (in09 ln 1 262144) = true, (in09 lo (-256) 256) = true, (in09 hi (-256) 256) = true, (decide (lo < hi)) = true, (in09 up 1 64) = true, (in09 dn 1 64) = true, (in09 mx 1 64) = false]) TF7_holds rfl 300 rfl [.b true, .b true, .b true, .b true, .b true, .b true, .b true, .b false] (by kernel_rfl) ⟨c1, c2, c3, c4, c5, c6, c7, c8, trivial⟩
                · exact Runs.script (r := .bool (decide ((IntKind.i64.wrap (mx * ln)) ≤ 2097152))) (ps := [(near09 px py 1048576) = true, (in09 ln 1 262144) = true, (in09 lo (-256) 256) = true, (in09 hi (-256) 256) = true, (decide (lo < hi)) = true, (in09 up 1 64) = true, (in09 dn 1 64) = true, (in09 mx 1 64) = true]) TF7_holds rfl 300 rfl [.b true, .b true, .b true, .b true, .b true, .b true, .b true, .b true] (by kernel_rfl) ⟨c1, c2, c3, c4, c5, c6, c7, c8, trivial⟩

def g24 : List AV → Option (AV × List Prop)
  | [.agg [.str _, .int .i64 _, .int .i64 px, .int .i64 py, .int .i64 ln, .bool _, .int .i64 lo, .int .i64 hi, .int .i64 up, .int .i64 dn, .int .i64 mx, .int .i64 _, .int .i64 _, .int .i64 _, .int .i64 _]] => some (.bool (flips px py ln lo hi up dn mx), [])
  | _ => none
def TF8 : Table := (24, g24) :: TF7
theorem TF8_holds : THolds Try.ir TF8 := THolds.cons TF7_holds (by
  intro args r ps h hp
  unfold g24 at h
  split at h
  · cases h; exact Try.run24 _ _ _ _ _ _ _ _ _ _ _ _ _ _ _ 
  · cases h)

def angle13 (k : Int) : Bool :=
  match decide (k ≥ (-256)) with
  | true => ((decide (k ≤ 256)))
  | false => (false)
theorem Try.run52 (k : Int)  : Runs Try.ir 52 [.int .i64 k] (.bool (angle13 k)) := by
  unfold angle13
  cases c1 : (decide (k ≥ (-256)))
  · exact Runs.script (r := .bool false) (ps := [(decide (k ≥ (-256))) = false]) TF8_holds rfl 300 rfl [.b false] (by kernel_rfl) ⟨c1, trivial⟩
  · exact Runs.script (r := .bool (decide (k ≤ 256))) (ps := [(decide (k ≥ (-256))) = true]) TF8_holds rfl 300 rfl [.b true] (by kernel_rfl) ⟨c1, trivial⟩

def g52 : List AV → Option (AV × List Prop)
  | [.int .i64 k] => some (.bool (angle13 k), [])
  | _ => none
def TF9 : Table := (52, g52) :: TF8
theorem TF9_holds : THolds Try.ir TF9 := THolds.cons TF8_holds (by
  intro args r ps h hp
  unfold g52 at h
  split at h
  · cases h; exact Try.run52 _ 
  · cases h)

def next13 (px py ln lo hi up dn mx k speed : Int) (on : Bool) : Int × Int :=
  match flips px py ln lo hi up dn mx with
  | true => (match angle13 k with
  | true => (match decide (speed < (-64)) with
  | true => ((0, 0))
  | false => (match decide (speed > 64) with
  | true => ((0, 0))
  | false => (match on with
  | true => (match decide ((IntKind.i64.wrap (k + (if mx < (IntKind.i64.wrap (speed + up)) then mx else (IntKind.i64.wrap (speed + up))))) > hi) with
  | true => ((hi, 0))
  | false => (match decide ((IntKind.i64.wrap (k + (if mx < (IntKind.i64.wrap (speed + up)) then mx else (IntKind.i64.wrap (speed + up))))) < lo) with
  | true => ((lo, 0))
  | false => ((IntKind.i64.wrap (k + (if mx < (IntKind.i64.wrap (speed + up)) then mx else (IntKind.i64.wrap (speed + up)))), (if mx < (IntKind.i64.wrap (speed + up)) then mx else (IntKind.i64.wrap (speed + up)))))))
  | false => (match decide ((IntKind.i64.wrap (k + (if (IntKind.i64.wrap (0 - mx)) > (IntKind.i64.wrap (speed - dn)) then (IntKind.i64.wrap (0 - mx)) else (IntKind.i64.wrap (speed - dn))))) > hi) with
  | true => ((hi, 0))
  | false => (match decide ((IntKind.i64.wrap (k + (if (IntKind.i64.wrap (0 - mx)) > (IntKind.i64.wrap (speed - dn)) then (IntKind.i64.wrap (0 - mx)) else (IntKind.i64.wrap (speed - dn))))) < lo) with
  | true => ((lo, 0))
  | false => ((IntKind.i64.wrap (k + (if (IntKind.i64.wrap (0 - mx)) > (IntKind.i64.wrap (speed - dn)) then (IntKind.i64.wrap (0 - mx)) else (IntKind.i64.wrap (speed - dn)))), (if (IntKind.i64.wrap (0 - mx)) > (IntKind.i64.wrap (speed - dn)) then (IntKind.i64.wrap (0 - mx)) else (IntKind.i64.wrap (speed - dn))))))))))
  | false => ((0, 0)))
  | false => ((0, 0))
theorem Try.run21 (nm : ByteArray) (lv px py ln : Int) (mi : Bool) (lo hi up dn mx rs gr co sw k speed : Int) (on : Bool)  : Runs Try.ir 21 [.agg [.str nm, .int .i64 lv, .int .i64 px, .int .i64 py, .int .i64 ln, .bool mi, .int .i64 lo, .int .i64 hi, .int .i64 up, .int .i64 dn, .int .i64 mx, .int .i64 rs, .int .i64 gr, .int .i64 co, .int .i64 sw], .int .i64 k, .int .i64 speed, .bool on] (.tup [.int .i64 ((next13 px py ln lo hi up dn mx k speed on).1), .int .i64 ((next13 px py ln lo hi up dn mx k speed on).2)]) := by
  unfold next13
  cases c1 : (flips px py ln lo hi up dn mx)
  · exact Runs.script (r := .tup [.int .i64 0, .int .i64 0]) (ps := [(!(flips px py ln lo hi up dn mx)) = true, true = true, true = true, true = true]) TF9_holds rfl 300 rfl [.b true, .b true, .b true, .b true] (by kernel_rfl) ⟨(by rw [c1]; rfl), rfl, rfl, rfl, trivial⟩
  · cases c2 : (angle13 k)
    · exact Runs.script (r := .tup [.int .i64 0, .int .i64 0]) (ps := [(!(flips px py ln lo hi up dn mx)) = false, (!(angle13 k)) = true, true = true, true = true]) TF9_holds rfl 300 rfl [.b false, .b true, .b true, .b true] (by kernel_rfl) ⟨(by rw [c1]; rfl), (by rw [c2]; rfl), rfl, rfl, trivial⟩
    · cases c3 : (decide (speed < (-64)))
      · cases c4 : (decide (speed > 64))
        · cases on
          · cases c6 : (decide ((IntKind.i64.wrap (k + (if (IntKind.i64.wrap (0 - mx)) > (IntKind.i64.wrap (speed - dn)) then (IntKind.i64.wrap (0 - mx)) else (IntKind.i64.wrap (speed - dn))))) > hi))
            · cases c7 : (decide ((IntKind.i64.wrap (k + (if (IntKind.i64.wrap (0 - mx)) > (IntKind.i64.wrap (speed - dn)) then (IntKind.i64.wrap (0 - mx)) else (IntKind.i64.wrap (speed - dn))))) < lo))
              · exact Runs.script (r := .tup [.int .i64 (IntKind.i64.wrap (k + (if (IntKind.i64.wrap (0 - mx)) > (IntKind.i64.wrap (speed - dn)) then (IntKind.i64.wrap (0 - mx)) else (IntKind.i64.wrap (speed - dn))))), .int .i64 (if (IntKind.i64.wrap (0 - mx)) > (IntKind.i64.wrap (speed - dn)) then (IntKind.i64.wrap (0 - mx)) else (IntKind.i64.wrap (speed - dn)))]) (ps := [(!(flips px py ln lo hi up dn mx)) = false, (!(angle13 k)) = false, (decide (speed < (-64))) = false, (decide (speed > 64)) = false, false = false, (decide ((IntKind.i64.wrap (k + (if (IntKind.i64.wrap (0 - mx)) > (IntKind.i64.wrap (speed - dn)) then (IntKind.i64.wrap (0 - mx)) else (IntKind.i64.wrap (speed - dn))))) > hi)) = false, (decide ((IntKind.i64.wrap (k + (if (IntKind.i64.wrap (0 - mx)) > (IntKind.i64.wrap (speed - dn)) then (IntKind.i64.wrap (0 - mx)) else (IntKind.i64.wrap (speed - dn))))) < lo)) = false]) TF9_holds rfl 300 rfl [.b false, .b false, .b false, .b false, .b false, .b false, .b false] (by kernel_rfl) ⟨(by rw [c1]; rfl), (by rw [c2]; rfl), c3, c4, rfl, c6, c7, trivial⟩
              · exact Runs.script (r := .tup [.int .i64 lo, .int .i64 0]) (ps := [(!(flips px py ln lo hi up dn mx)) = false, (!(angle13 k)) = false, (decide (speed < (-64))) = false, (decide (speed > 64)) = false, false = false, (decide ((IntKind.i64.wrap (k + (if (IntKind.i64.wrap (0 - mx)) > (IntKind.i64.wrap (speed - dn)) then (IntKind.i64.wrap (0 - mx)) else (IntKind.i64.wrap (speed - dn))))) > hi)) = false, (decide ((IntKind.i64.wrap (k + (if (IntKind.i64.wrap (0 - mx)) > (IntKind.i64.wrap (speed - dn)) then (IntKind.i64.wrap (0 - mx)) else (IntKind.i64.wrap (speed - dn))))) < lo)) = true]) TF9_holds rfl 300 rfl [.b false, .b false, .b false, .b false, .b false, .b false, .b true] (by kernel_rfl) ⟨(by rw [c1]; rfl), (by rw [c2]; rfl), c3, c4, rfl, c6, c7, trivial⟩
            · exact Runs.script (r := .tup [.int .i64 hi, .int .i64 0]) (ps := [(!(flips px py ln lo hi up dn mx)) = false, (!(angle13 k)) = false, (decide (speed < (-64))) = false, (decide (speed > 64)) = false, false = false, (decide ((IntKind.i64.wrap (k + (if (IntKind.i64.wrap (0 - mx)) > (IntKind.i64.wrap (speed - dn)) then (IntKind.i64.wrap (0 - mx)) else (IntKind.i64.wrap (speed - dn))))) > hi)) = true]) TF9_holds rfl 300 rfl [.b false, .b false, .b false, .b false, .b false, .b true] (by kernel_rfl) ⟨(by rw [c1]; rfl), (by rw [c2]; rfl), c3, c4, rfl, c6, trivial⟩
          · cases c6 : (decide ((IntKind.i64.wrap (k + (if mx < (IntKind.i64.wrap (speed + up)) then mx else (IntKind.i64.wrap (speed + up))))) > hi))
            · cases c7 : (decide ((IntKind.i64.wrap (k + (if mx < (IntKind.i64.wrap (speed + up)) then mx else (IntKind.i64.wrap (speed + up))))) < lo))
              · exact Runs.script (r := .tup [.int .i64 (IntKind.i64.wrap (k + (if mx < (IntKind.i64.wrap (speed + up)) then mx else (IntKind.i64.wrap (speed + up))))), .int .i64 (if mx < (IntKind.i64.wrap (speed + up)) then mx else (IntKind.i64.wrap (speed + up)))]) (ps := [(!(flips px py ln lo hi up dn mx)) = false, (!(angle13 k)) = false, (decide (speed < (-64))) = false, (decide (speed > 64)) = false, true = true, (decide ((IntKind.i64.wrap (k + (if mx < (IntKind.i64.wrap (speed + up)) then mx else (IntKind.i64.wrap (speed + up))))) > hi)) = false, (decide ((IntKind.i64.wrap (k + (if mx < (IntKind.i64.wrap (speed + up)) then mx else (IntKind.i64.wrap (speed + up))))) < lo)) = false]) TF9_holds rfl 300 rfl [.b false, .b false, .b false, .b false, .b true, .b false, .b false] (by kernel_rfl) ⟨(by rw [c1]; rfl), (by rw [c2]; rfl), c3, c4, rfl, c6, c7, trivial⟩
              · exact Runs.script (r := .tup [.int .i64 lo, .int .i64 0]) (ps := [(!(flips px py ln lo hi up dn mx)) = false, (!(angle13 k)) = false, (decide (speed < (-64))) = false, (decide (speed > 64)) = false, true = true, (decide ((IntKind.i64.wrap (k + (if mx < (IntKind.i64.wrap (speed + up)) then mx else (IntKind.i64.wrap (speed + up))))) > hi)) = false, (decide ((IntKind.i64.wrap (k + (if mx < (IntKind.i64.wrap (speed + up)) then mx else (IntKind.i64.wrap (speed + up))))) < lo)) = true]) TF9_holds rfl 300 rfl [.b false, .b false, .b false, .b false, .b true, .b false, .b true] (by kernel_rfl) ⟨(by rw [c1]; rfl), (by rw [c2]; rfl), c3, c4, rfl, c6, c7, trivial⟩
            · exact Runs.script (r := .tup [.int .i64 hi, .int .i64 0]) (ps := [(!(flips px py ln lo hi up dn mx)) = false, (!(angle13 k)) = false, (decide (speed < (-64))) = false, (decide (speed > 64)) = false, true = true, (decide ((IntKind.i64.wrap (k + (if mx < (IntKind.i64.wrap (speed + up)) then mx else (IntKind.i64.wrap (speed + up))))) > hi)) = true]) TF9_holds rfl 300 rfl [.b false, .b false, .b false, .b false, .b true, .b true] (by kernel_rfl) ⟨(by rw [c1]; rfl), (by rw [c2]; rfl), c3, c4, rfl, c6, trivial⟩
        · exact Runs.script (r := .tup [.int .i64 0, .int .i64 0]) (ps := [(!(flips px py ln lo hi up dn mx)) = false, (!(angle13 k)) = false, (decide (speed < (-64))) = false, (decide (speed > 64)) = true]) TF9_holds rfl 300 rfl [.b false, .b false, .b false, .b true] (by kernel_rfl) ⟨(by rw [c1]; rfl), (by rw [c2]; rfl), c3, c4, trivial⟩
      · exact Runs.script (r := .tup [.int .i64 0, .int .i64 0]) (ps := [(!(flips px py ln lo hi up dn mx)) = false, (!(angle13 k)) = false, (decide (speed < (-64))) = true, true = true]) TF9_holds rfl 300 rfl [.b false, .b false, .b true, .b true] (by kernel_rfl) ⟨(by rw [c1]; rfl), (by rw [c2]; rfl), c3, rfl, trivial⟩

def g21 : List AV → Option (AV × List Prop)
  | [.agg [.str _, .int .i64 _, .int .i64 px, .int .i64 py, .int .i64 ln, .bool _, .int .i64 lo, .int .i64 hi, .int .i64 up, .int .i64 dn, .int .i64 mx, .int .i64 _, .int .i64 _, .int .i64 _, .int .i64 _], .int .i64 k, .int .i64 speed, .bool on] => some (.tup [.int .i64 ((next13 px py ln lo hi up dn mx k speed on).1), .int .i64 ((next13 px py ln lo hi up dn mx k speed on).2)], [])
  | _ => none
def TF10 : Table := (21, g21) :: TF9
theorem TF10_holds : THolds Try.ir TF10 := THolds.cons TF9_holds (by
  intro args r ps h hp
  unfold g21 at h
  split at h
  · cases h; exact Try.run21 _ _ _ _ _ _ _ _ _ _ _ _ _ _ _ _ _ _ 
  · cases h)

def ray13 (mi : Bool) (b k : Int) : Int × Int × Int :=
  match mi with
  | true => ((IntKind.i64.wrap (0 - (IntKind.i64.wrap ((IntKind.i64.wrap (b * b)) - (IntKind.i64.wrap (k * k))))), IntKind.i64.wrap ((IntKind.i64.wrap (2 * b)) * k), IntKind.i64.wrap ((IntKind.i64.wrap (b * b)) + (IntKind.i64.wrap (k * k)))))
  | false => ((IntKind.i64.wrap ((IntKind.i64.wrap (b * b)) - (IntKind.i64.wrap (k * k))), IntKind.i64.wrap ((IntKind.i64.wrap (2 * b)) * k), IntKind.i64.wrap ((IntKind.i64.wrap (b * b)) + (IntKind.i64.wrap (k * k)))))
theorem Try.run54 (nm : ByteArray) (lv px py ln : Int) (mi : Bool) (lo hi up dn mx rs gr co sw b k : Int)  : Runs Try.ir 54 [.agg [.str nm, .int .i64 lv, .int .i64 px, .int .i64 py, .int .i64 ln, .bool mi, .int .i64 lo, .int .i64 hi, .int .i64 up, .int .i64 dn, .int .i64 mx, .int .i64 rs, .int .i64 gr, .int .i64 co, .int .i64 sw], .int .i64 b, .int .i64 k] (.tup [.agg [.int .i64 ((ray13 mi b k).1), .int .i64 ((ray13 mi b k).2.1)], .int .i64 ((ray13 mi b k).2.2)]) := by
  unfold ray13
  cases mi
  · exact Runs.script (r := .tup [.agg [.int .i64 (IntKind.i64.wrap ((IntKind.i64.wrap (b * b)) - (IntKind.i64.wrap (k * k)))), .int .i64 (IntKind.i64.wrap ((IntKind.i64.wrap (2 * b)) * k))], .int .i64 (IntKind.i64.wrap ((IntKind.i64.wrap (b * b)) + (IntKind.i64.wrap (k * k))))]) (ps := [false = false]) TF10_holds rfl 300 rfl [.b false] (by kernel_rfl) ⟨rfl, trivial⟩
  · exact Runs.script (r := .tup [.agg [.int .i64 (IntKind.i64.wrap (0 - (IntKind.i64.wrap ((IntKind.i64.wrap (b * b)) - (IntKind.i64.wrap (k * k)))))), .int .i64 (IntKind.i64.wrap ((IntKind.i64.wrap (2 * b)) * k))], .int .i64 (IntKind.i64.wrap ((IntKind.i64.wrap (b * b)) + (IntKind.i64.wrap (k * k))))]) (ps := [true = true]) TF10_holds rfl 300 rfl [.b true] (by kernel_rfl) ⟨rfl, trivial⟩

def g54 : List AV → Option (AV × List Prop)
  | [.agg [.str _, .int .i64 _, .int .i64 _, .int .i64 _, .int .i64 _, .bool mi, .int .i64 _, .int .i64 _, .int .i64 _, .int .i64 _, .int .i64 _, .int .i64 _, .int .i64 _, .int .i64 _, .int .i64 _], .int .i64 b, .int .i64 k] => some (.tup [.agg [.int .i64 ((ray13 mi b k).1), .int .i64 ((ray13 mi b k).2.1)], .int .i64 ((ray13 mi b k).2.2)], [])
  | _ => none
def TF11 : Table := (54, g54) :: TF10
theorem TF11_holds : THolds Try.ir TF11 := THolds.cons TF10_holds (by
  intro args r ps h hp
  unfold g54 at h
  split at h
  · cases h; exact Try.run54 _ _ _ _ _ _ _ _ _ _ _ _ _ _ _ _ _ 
  · cases h)

def direction13 (px py ln : Int) (mi : Bool) (lo hi up dn mx k : Int) : Int × Int × Int :=
  match flips px py ln lo hi up dn mx with
  | true => (match angle13 k with
  | true => (((ray13 mi 256 k).1, (ray13 mi 256 k).2.1, (ray13 mi 256 k).2.2))
  | false => ((0, 0, 0)))
  | false => ((0, 0, 0))
theorem Try.run23 (nm : ByteArray) (lv px py ln : Int) (mi : Bool) (lo hi up dn mx rs gr co sw k : Int)  : Runs Try.ir 23 [.agg [.str nm, .int .i64 lv, .int .i64 px, .int .i64 py, .int .i64 ln, .bool mi, .int .i64 lo, .int .i64 hi, .int .i64 up, .int .i64 dn, .int .i64 mx, .int .i64 rs, .int .i64 gr, .int .i64 co, .int .i64 sw], .int .i64 k] (.tup [.agg [.int .i64 ((direction13 px py ln mi lo hi up dn mx k).1), .int .i64 ((direction13 px py ln mi lo hi up dn mx k).2.1)], .int .i64 ((direction13 px py ln mi lo hi up dn mx k).2.2)]) := by
  unfold direction13
  cases c1 : (flips px py ln lo hi up dn mx)
  · exact Runs.script (r := .tup [.agg [.int .i64 0, .int .i64 0], .int .i64 0]) (ps := [(!(flips px py ln lo hi up dn mx)) = true, true = true]) TF11_holds rfl 300 rfl [.b true, .b true] (by kernel_rfl) ⟨(by rw [c1]; rfl), rfl, trivial⟩
  · cases c2 : (angle13 k)
    · exact Runs.script (r := .tup [.agg [.int .i64 0, .int .i64 0], .int .i64 0]) (ps := [(!(flips px py ln lo hi up dn mx)) = false, (!(angle13 k)) = true]) TF11_holds rfl 300 rfl [.b false, .b true] (by kernel_rfl) ⟨(by rw [c1]; rfl), (by rw [c2]; rfl), trivial⟩
    · exact Runs.script (r := .tup [.agg [.int .i64 ((ray13 mi 256 k).1), .int .i64 ((ray13 mi 256 k).2.1)], .int .i64 ((ray13 mi 256 k).2.2)]) (ps := [(!(flips px py ln lo hi up dn mx)) = false, (!(angle13 k)) = false]) TF11_holds rfl 300 rfl [.b false, .b false] (by kernel_rfl) ⟨(by rw [c1]; rfl), (by rw [c2]; rfl), trivial⟩

def g23 : List AV → Option (AV × List Prop)
  | [.agg [.str _, .int .i64 _, .int .i64 px, .int .i64 py, .int .i64 ln, .bool mi, .int .i64 lo, .int .i64 hi, .int .i64 up, .int .i64 dn, .int .i64 mx, .int .i64 _, .int .i64 _, .int .i64 _, .int .i64 _], .int .i64 k] => some (.tup [.agg [.int .i64 ((direction13 px py ln mi lo hi up dn mx k).1), .int .i64 ((direction13 px py ln mi lo hi up dn mx k).2.1)], .int .i64 ((direction13 px py ln mi lo hi up dn mx k).2.2)], [])
  | _ => none
def TF12 : Table := (23, g23) :: TF11
theorem TF12_holds : THolds Try.ir TF12 := THolds.cons TF11_holds (by
  intro args r ps h hp
  unfold g23 at h
  split at h
  · cases h; exact Try.run23 _ _ _ _ _ _ _ _ _ _ _ _ _ _ _ _ 
  · cases h)

def angleB (k : Int) : Bool :=
  match decide (k ≥ (-256)) with
  | true => ((decide (k ≤ 256)))
  | false => (false)
theorem Try.run25 (k : Int)  : Runs Try.ir 25 [.int .i64 k] (.bool (angleB k)) := by
  unfold angleB
  cases c1 : (decide (k ≥ (-256)))
  · exact Runs.script (r := .bool false) (ps := [(decide (k ≥ (-256))) = false]) TF12_holds rfl 300 rfl [.b false] (by kernel_rfl) ⟨c1, trivial⟩
  · exact Runs.script (r := .bool (decide (k ≤ 256))) (ps := [(decide (k ≥ (-256))) = true]) TF12_holds rfl 300 rfl [.b true] (by kernel_rfl) ⟨c1, trivial⟩

def g25 : List AV → Option (AV × List Prop)
  | [.int .i64 k] => some (.bool (angleB k), [])
  | _ => none
def TF13 : Table := (25, g25) :: TF12
theorem TF13_holds : THolds Try.ir TF13 := THolds.cons TF12_holds (by
  intro args r ps h hp
  unfold g25 at h
  split at h
  · cases h; exact Try.run25 _ 
  · cases h)

def near13 (x y : Int) : Bool :=
  match decide (x ≥ (-2097152)) with
  | true => (match decide (x ≤ 2097152) with
  | true => (match decide (y ≥ (-2097152)) with
  | true => ((decide (y ≤ 2097152)))
  | false => (false))
  | false => (false))
  | false => (false)
theorem Try.run28 (x y : Int)  : Runs Try.ir 28 [.agg [.int .i64 x, .int .i64 y]] (.bool (near13 x y)) := by
  unfold near13
  cases c1 : (decide (x ≥ (-2097152)))
  · exact Runs.script (r := .bool false) (ps := [(decide (x ≥ (-2097152))) = false, false = false, false = false]) TF13_holds rfl 300 rfl [.b false, .b false, .b false] (by kernel_rfl) ⟨c1, rfl, rfl, trivial⟩
  · cases c2 : (decide (x ≤ 2097152))
    · exact Runs.script (r := .bool false) (ps := [(decide (x ≥ (-2097152))) = true, (decide (x ≤ 2097152)) = false, false = false]) TF13_holds rfl 300 rfl [.b true, .b false, .b false] (by kernel_rfl) ⟨c1, c2, rfl, trivial⟩
    · cases c3 : (decide (y ≥ (-2097152)))
      · exact Runs.script (r := .bool false) (ps := [(decide (x ≥ (-2097152))) = true, (decide (x ≤ 2097152)) = true, (decide (y ≥ (-2097152))) = false]) TF13_holds rfl 300 rfl [.b true, .b true, .b false] (by kernel_rfl) ⟨c1, c2, c3, trivial⟩
      · exact Runs.script (r := .bool (decide (y ≤ 2097152))) (ps := [(decide (x ≥ (-2097152))) = true, (decide (x ≤ 2097152)) = true, (decide (y ≥ (-2097152))) = true]) TF13_holds rfl 300 rfl [.b true, .b true, .b true] (by kernel_rfl) ⟨c1, c2, c3, trivial⟩

def g28 : List AV → Option (AV × List Prop)
  | [.agg [.int .i64 x, .int .i64 y]] => some (.bool (near13 x y), [])
  | _ => none
def TF14 : Table := (28, g28) :: TF13
theorem TF14_holds : THolds Try.ir TF14 := THolds.cons TF13_holds (by
  intro args r ps h hp
  unfold g28 at h
  split at h
  · cases h; exact Try.run28 _ _ 
  · cases h)

def flip13 (x y : Int) : Int × Int :=
  (IntKind.i64.wrap (0 - x), y)
theorem Try.run31 (x y : Int)  : Runs Try.ir 31 [.agg [.int .i64 x, .int .i64 y]] (.agg [.int .i64 ((flip13 x y).1), .int .i64 ((flip13 x y).2)]) := by
  unfold flip13
  exact Runs.script (r := .agg [.int .i64 (IntKind.i64.wrap (0 - x)), .int .i64 y]) (ps := []) TF14_holds rfl 300 rfl [] (by kernel_rfl) trivial

def g31 : List AV → Option (AV × List Prop)
  | [.agg [.int .i64 x, .int .i64 y]] => some (.agg [.int .i64 ((flip13 x y).1), .int .i64 ((flip13 x y).2)], [])
  | _ => none
def TF15 : Table := (31, g31) :: TF14
theorem TF15_holds : THolds Try.ir TF15 := THolds.cons TF14_holds (by
  intro args r ps h hp
  unfold g31 at h
  split at h
  · cases h; exact Try.run31 _ _ 
  · cases h)

def mirrored13 (nm : ByteArray) (lv px py ln : Int) (mi : Bool) (lo hi up dn mx rs gr co sw : Int) : ByteArray × Int × Int × Int × Int × Bool × Int × Int × Int × Int × Int × Int × Int × Int × Int :=
  (nm, lv, (flip13 px py).1, (flip13 px py).2, ln, (!mi), lo, hi, up, dn, mx, rs, gr, co, sw)
theorem Try.run29 (nm : ByteArray) (lv px py ln : Int) (mi : Bool) (lo hi up dn mx rs gr co sw : Int)  : Runs Try.ir 29 [.agg [.str nm, .int .i64 lv, .int .i64 px, .int .i64 py, .int .i64 ln, .bool mi, .int .i64 lo, .int .i64 hi, .int .i64 up, .int .i64 dn, .int .i64 mx, .int .i64 rs, .int .i64 gr, .int .i64 co, .int .i64 sw]] (.agg [.str ((mirrored13 nm lv px py ln mi lo hi up dn mx rs gr co sw).1), .int .i64 ((mirrored13 nm lv px py ln mi lo hi up dn mx rs gr co sw).2.1), .int .i64 ((mirrored13 nm lv px py ln mi lo hi up dn mx rs gr co sw).2.2.1), .int .i64 ((mirrored13 nm lv px py ln mi lo hi up dn mx rs gr co sw).2.2.2.1), .int .i64 ((mirrored13 nm lv px py ln mi lo hi up dn mx rs gr co sw).2.2.2.2.1), .bool ((mirrored13 nm lv px py ln mi lo hi up dn mx rs gr co sw).2.2.2.2.2.1), .int .i64 ((mirrored13 nm lv px py ln mi lo hi up dn mx rs gr co sw).2.2.2.2.2.2.1), .int .i64 ((mirrored13 nm lv px py ln mi lo hi up dn mx rs gr co sw).2.2.2.2.2.2.2.1), .int .i64 ((mirrored13 nm lv px py ln mi lo hi up dn mx rs gr co sw).2.2.2.2.2.2.2.2.1), .int .i64 ((mirrored13 nm lv px py ln mi lo hi up dn mx rs gr co sw).2.2.2.2.2.2.2.2.2.1), .int .i64 ((mirrored13 nm lv px py ln mi lo hi up dn mx rs gr co sw).2.2.2.2.2.2.2.2.2.2.1), .int .i64 ((mirrored13 nm lv px py ln mi lo hi up dn mx rs gr co sw).2.2.2.2.2.2.2.2.2.2.2.1), .int .i64 ((mirrored13 nm lv px py ln mi lo hi up dn mx rs gr co sw).2.2.2.2.2.2.2.2.2.2.2.2.1), .int .i64 ((mirrored13 nm lv px py ln mi lo hi up dn mx rs gr co sw).2.2.2.2.2.2.2.2.2.2.2.2.2.1), .int .i64 ((mirrored13 nm lv px py ln mi lo hi up dn mx rs gr co sw).2.2.2.2.2.2.2.2.2.2.2.2.2.2)]) := by
  unfold mirrored13
  exact Runs.script (r := .agg [.str nm, .int .i64 lv, .int .i64 ((flip13 px py).1), .int .i64 ((flip13 px py).2), .int .i64 ln, .bool (!mi), .int .i64 lo, .int .i64 hi, .int .i64 up, .int .i64 dn, .int .i64 mx, .int .i64 rs, .int .i64 gr, .int .i64 co, .int .i64 sw]) (ps := []) TF15_holds rfl 300 rfl [] (by kernel_rfl) trivial

def g29 : List AV → Option (AV × List Prop)
  | [.agg [.str nm, .int .i64 lv, .int .i64 px, .int .i64 py, .int .i64 ln, .bool mi, .int .i64 lo, .int .i64 hi, .int .i64 up, .int .i64 dn, .int .i64 mx, .int .i64 rs, .int .i64 gr, .int .i64 co, .int .i64 sw]] => some (.agg [.str ((mirrored13 nm lv px py ln mi lo hi up dn mx rs gr co sw).1), .int .i64 ((mirrored13 nm lv px py ln mi lo hi up dn mx rs gr co sw).2.1), .int .i64 ((mirrored13 nm lv px py ln mi lo hi up dn mx rs gr co sw).2.2.1), .int .i64 ((mirrored13 nm lv px py ln mi lo hi up dn mx rs gr co sw).2.2.2.1), .int .i64 ((mirrored13 nm lv px py ln mi lo hi up dn mx rs gr co sw).2.2.2.2.1), .bool ((mirrored13 nm lv px py ln mi lo hi up dn mx rs gr co sw).2.2.2.2.2.1), .int .i64 ((mirrored13 nm lv px py ln mi lo hi up dn mx rs gr co sw).2.2.2.2.2.2.1), .int .i64 ((mirrored13 nm lv px py ln mi lo hi up dn mx rs gr co sw).2.2.2.2.2.2.2.1), .int .i64 ((mirrored13 nm lv px py ln mi lo hi up dn mx rs gr co sw).2.2.2.2.2.2.2.2.1), .int .i64 ((mirrored13 nm lv px py ln mi lo hi up dn mx rs gr co sw).2.2.2.2.2.2.2.2.2.1), .int .i64 ((mirrored13 nm lv px py ln mi lo hi up dn mx rs gr co sw).2.2.2.2.2.2.2.2.2.2.1), .int .i64 ((mirrored13 nm lv px py ln mi lo hi up dn mx rs gr co sw).2.2.2.2.2.2.2.2.2.2.2.1), .int .i64 ((mirrored13 nm lv px py ln mi lo hi up dn mx rs gr co sw).2.2.2.2.2.2.2.2.2.2.2.2.1), .int .i64 ((mirrored13 nm lv px py ln mi lo hi up dn mx rs gr co sw).2.2.2.2.2.2.2.2.2.2.2.2.2.1), .int .i64 ((mirrored13 nm lv px py ln mi lo hi up dn mx rs gr co sw).2.2.2.2.2.2.2.2.2.2.2.2.2.2)], [])
  | _ => none
def TF16 : Table := (29, g29) :: TF15
theorem TF16_holds : THolds Try.ir TF16 := THolds.cons TF15_holds (by
  intro args r ps h hp
  unfold g29 at h
  split at h
  · cases h; exact Try.run29 _ _ _ _ _ _ _ _ _ _ _ _ _ _ _ 
  · cases h)

theorem Try.run19 : Runs Try.ir 19 [] (.bool true) := ⟨1000, by kernel_rfl⟩
def g19 : List AV → Option (AV × List Prop)
  | [] => some (.bool true, [])
  | _ => none
def TF17 : Table := (19, g19) :: TF16
theorem TF17_holds : THolds Try.ir TF17 := THolds.cons TF16_holds (by
  intro args r ps h hp
  unfold g19 at h
  split at h
  · cases h; exact Try.run19
  · cases h)

def TFlip : Table := TF17
theorem TFlip_holds : THolds Try.ir TFlip := TF17_holds
end Go.Proofs.Ythakfjlnhldehaa
