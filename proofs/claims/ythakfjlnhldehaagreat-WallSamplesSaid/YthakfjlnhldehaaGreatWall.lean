/- Contracts of the package wall (places and normals), as functions of whole numbers. -/
import Derived.Test.YthakfjlnhldehaaGreatWLoop
import Derived.Test.YthakfjlnhldehaaGreatAwe
namespace Go.Proofs.YthakfjlnhldehaaGreat
open Go.Ai
set_option maxRecDepth 100000

def boxB (n x y : Int) : Bool := decide (-n ≤ x) && decide (x ≤ n) && decide (-n ≤ y) && decide (y ≤ n)
theorem boxB_yes {n x y : Int} (h : boxB n x y = true) : -n ≤ x ∧ x ≤ n ∧ -n ≤ y ∧ y ≤ n := by
  simp [boxB] at h; omega
theorem boxB_mk {n x y : Int} (h : -n ≤ x ∧ x ≤ n ∧ -n ≤ y ∧ y ≤ n) : boxB n x y = true := by
  simp [boxB]; omega

def Tryz.sh27_1 (n x0 y0 : Int) : AV :=
  match decide (x0 < (IntKind.i64.wrap (0 - n))) with
  | true => (.bool false)
  | false => (match decide (x0 > n) with
  | true => (.bool false)
  | false => (match decide (y0 < (IntKind.i64.wrap (0 - n))) with
  | true => (.bool false)
  | false => (match decide (y0 > n) with
  | true => (.bool false)
  | false => (.bool true))))
theorem Tryz.run27_1 (n x0 y0 : Int)  : Runs Tryz.ir 27 [.int .i64 n, .sl 1 [.int .i64 x0, .int .i64 y0]] (Tryz.sh27_1 n x0 y0) := by
  unfold Tryz.sh27_1
  cases c1 : (decide (x0 < (IntKind.i64.wrap (0 - n))))
  · cases c2 : (decide (x0 > n))
    · cases c3 : (decide (y0 < (IntKind.i64.wrap (0 - n))))
      · cases c4 : (decide (y0 > n))
        · exact Runs.script (r := .bool true) (ps := [true = true, 0 ≤ (0 : Int) ∧ (0 : Int) < (1 : Nat), takeA [.int .i64 x0, .int .i64 y0] 0 2 false = some (.agg [.int .i64 x0, .int .i64 y0]), (decide (x0 < (IntKind.i64.wrap (0 - n)))) = false, (decide (x0 > n)) = false, (decide (y0 < (IntKind.i64.wrap (0 - n)))) = false, (decide (y0 > n)) = false, false = false]) TLoop_holds rfl 300 rfl [.b true, .v (.agg [.int .i64 x0, .int .i64 y0]), .b false, .b false, .b false, .b false, .b false] (by kernel_rfl) ⟨rfl, (by decide), rfl, c1, c2, c3, c4, rfl, trivial⟩
        · exact Runs.script (r := .bool false) (ps := [true = true, 0 ≤ (0 : Int) ∧ (0 : Int) < (1 : Nat), takeA [.int .i64 x0, .int .i64 y0] 0 2 false = some (.agg [.int .i64 x0, .int .i64 y0]), (decide (x0 < (IntKind.i64.wrap (0 - n)))) = false, (decide (x0 > n)) = false, (decide (y0 < (IntKind.i64.wrap (0 - n)))) = false, (decide (y0 > n)) = true]) TLoop_holds rfl 300 rfl [.b true, .v (.agg [.int .i64 x0, .int .i64 y0]), .b false, .b false, .b false, .b true] (by kernel_rfl) ⟨rfl, (by decide), rfl, c1, c2, c3, c4, trivial⟩
      · exact Runs.script (r := .bool false) (ps := [true = true, 0 ≤ (0 : Int) ∧ (0 : Int) < (1 : Nat), takeA [.int .i64 x0, .int .i64 y0] 0 2 false = some (.agg [.int .i64 x0, .int .i64 y0]), (decide (x0 < (IntKind.i64.wrap (0 - n)))) = false, (decide (x0 > n)) = false, (decide (y0 < (IntKind.i64.wrap (0 - n)))) = true, true = true]) TLoop_holds rfl 300 rfl [.b true, .v (.agg [.int .i64 x0, .int .i64 y0]), .b false, .b false, .b true, .b true] (by kernel_rfl) ⟨rfl, (by decide), rfl, c1, c2, c3, rfl, trivial⟩
    · exact Runs.script (r := .bool false) (ps := [true = true, 0 ≤ (0 : Int) ∧ (0 : Int) < (1 : Nat), takeA [.int .i64 x0, .int .i64 y0] 0 2 false = some (.agg [.int .i64 x0, .int .i64 y0]), (decide (x0 < (IntKind.i64.wrap (0 - n)))) = false, (decide (x0 > n)) = true, true = true, true = true]) TLoop_holds rfl 300 rfl [.b true, .v (.agg [.int .i64 x0, .int .i64 y0]), .b false, .b true, .b true, .b true] (by kernel_rfl) ⟨rfl, (by decide), rfl, c1, c2, rfl, rfl, trivial⟩
  · exact Runs.script (r := .bool false) (ps := [true = true, 0 ≤ (0 : Int) ∧ (0 : Int) < (1 : Nat), takeA [.int .i64 x0, .int .i64 y0] 0 2 false = some (.agg [.int .i64 x0, .int .i64 y0]), (decide (x0 < (IntKind.i64.wrap (0 - n)))) = true, true = true, true = true, true = true]) TLoop_holds rfl 300 rfl [.b true, .v (.agg [.int .i64 x0, .int .i64 y0]), .b true, .b true, .b true, .b true] (by kernel_rfl) ⟨rfl, (by decide), rfl, c1, rfl, rfl, rfl, trivial⟩
theorem e27_1 (n x0 y0 : Int) (h0 : 0 ≤ n) (h1 : n ≤ 4611686018427387904) : Tryz.sh27_1 n x0 y0 = .bool (boxB n x0 y0) := by
  unfold Tryz.sh27_1 boxB
  simp only [Int.zero_sub, w64 (n := -n) (by omega) (by omega)]
  repeat' split
  all_goals (simp_all <;> omega)

def Tryz.sh27_2 (n x0 y0 x1 y1 : Int) : AV :=
  match decide (x0 < (IntKind.i64.wrap (0 - n))) with
  | true => (.bool false)
  | false => (match decide (x0 > n) with
  | true => (.bool false)
  | false => (match decide (y0 < (IntKind.i64.wrap (0 - n))) with
  | true => (.bool false)
  | false => (match decide (y0 > n) with
  | true => (.bool false)
  | false => (match decide (x1 < (IntKind.i64.wrap (0 - n))) with
  | true => (.bool false)
  | false => (match decide (x1 > n) with
  | true => (.bool false)
  | false => (match decide (y1 < (IntKind.i64.wrap (0 - n))) with
  | true => (.bool false)
  | false => (match decide (y1 > n) with
  | true => (.bool false)
  | false => (.bool true))))))))
theorem Tryz.run27_2 (n x0 y0 x1 y1 : Int)  : Runs Tryz.ir 27 [.int .i64 n, .sl 2 [.int .i64 x0, .int .i64 y0, .int .i64 x1, .int .i64 y1]] (Tryz.sh27_2 n x0 y0 x1 y1) := by
  unfold Tryz.sh27_2
  cases c1 : (decide (x0 < (IntKind.i64.wrap (0 - n))))
  · cases c2 : (decide (x0 > n))
    · cases c3 : (decide (y0 < (IntKind.i64.wrap (0 - n))))
      · cases c4 : (decide (y0 > n))
        · cases c5 : (decide (x1 < (IntKind.i64.wrap (0 - n))))
          · cases c6 : (decide (x1 > n))
            · cases c7 : (decide (y1 < (IntKind.i64.wrap (0 - n))))
              · cases c8 : (decide (y1 > n))
                · exact Runs.script (r := .bool true) (ps := [true = true, 0 ≤ (0 : Int) ∧ (0 : Int) < (2 : Nat), takeA [.int .i64 x0, .int .i64 y0, .int .i64 x1, .int .i64 y1] 0 2 false = some (.agg [.int .i64 x0, .int .i64 y0]), (decide (x0 < (IntKind.i64.wrap (0 - n)))) = false, (decide (x0 > n)) = false, (decide (y0 < (IntKind.i64.wrap (0 - n)))) = false, (decide (y0 > n)) = false, true = true, 0 ≤ (1 : Int) ∧ (1 : Int) < (2 : Nat), takeA [.int .i64 x1, .int .i64 y1] 0 2 false = some (.agg [.int .i64 x1, .int .i64 y1]), (decide (x1 < (IntKind.i64.wrap (0 - n)))) = false, (decide (x1 > n)) = false, (decide (y1 < (IntKind.i64.wrap (0 - n)))) = false, (decide (y1 > n)) = false, false = false]) TLoop_holds rfl 300 rfl [.b true, .v (.agg [.int .i64 x0, .int .i64 y0]), .b false, .b false, .b false, .b false, .b true, .v (.agg [.int .i64 x1, .int .i64 y1]), .b false, .b false, .b false, .b false, .b false] (by kernel_rfl) ⟨rfl, (by decide), rfl, c1, c2, c3, c4, rfl, (by decide), rfl, c5, c6, c7, c8, rfl, trivial⟩
                · exact Runs.script (r := .bool false) (ps := [true = true, 0 ≤ (0 : Int) ∧ (0 : Int) < (2 : Nat), takeA [.int .i64 x0, .int .i64 y0, .int .i64 x1, .int .i64 y1] 0 2 false = some (.agg [.int .i64 x0, .int .i64 y0]), (decide (x0 < (IntKind.i64.wrap (0 - n)))) = false, (decide (x0 > n)) = false, (decide (y0 < (IntKind.i64.wrap (0 - n)))) = false, (decide (y0 > n)) = false, true = true, 0 ≤ (1 : Int) ∧ (1 : Int) < (2 : Nat), takeA [.int .i64 x1, .int .i64 y1] 0 2 false = some (.agg [.int .i64 x1, .int .i64 y1]), (decide (x1 < (IntKind.i64.wrap (0 - n)))) = false, (decide (x1 > n)) = false, (decide (y1 < (IntKind.i64.wrap (0 - n)))) = false, (decide (y1 > n)) = true]) TLoop_holds rfl 300 rfl [.b true, .v (.agg [.int .i64 x0, .int .i64 y0]), .b false, .b false, .b false, .b false, .b true, .v (.agg [.int .i64 x1, .int .i64 y1]), .b false, .b false, .b false, .b true] (by kernel_rfl) ⟨rfl, (by decide), rfl, c1, c2, c3, c4, rfl, (by decide), rfl, c5, c6, c7, c8, trivial⟩
              · exact Runs.script (r := .bool false) (ps := [true = true, 0 ≤ (0 : Int) ∧ (0 : Int) < (2 : Nat), takeA [.int .i64 x0, .int .i64 y0, .int .i64 x1, .int .i64 y1] 0 2 false = some (.agg [.int .i64 x0, .int .i64 y0]), (decide (x0 < (IntKind.i64.wrap (0 - n)))) = false, (decide (x0 > n)) = false, (decide (y0 < (IntKind.i64.wrap (0 - n)))) = false, (decide (y0 > n)) = false, true = true, 0 ≤ (1 : Int) ∧ (1 : Int) < (2 : Nat), takeA [.int .i64 x1, .int .i64 y1] 0 2 false = some (.agg [.int .i64 x1, .int .i64 y1]), (decide (x1 < (IntKind.i64.wrap (0 - n)))) = false, (decide (x1 > n)) = false, (decide (y1 < (IntKind.i64.wrap (0 - n)))) = true, true = true]) TLoop_holds rfl 300 rfl [.b true, .v (.agg [.int .i64 x0, .int .i64 y0]), .b false, .b false, .b false, .b false, .b true, .v (.agg [.int .i64 x1, .int .i64 y1]), .b false, .b false, .b true, .b true] (by kernel_rfl) ⟨rfl, (by decide), rfl, c1, c2, c3, c4, rfl, (by decide), rfl, c5, c6, c7, rfl, trivial⟩
            · exact Runs.script (r := .bool false) (ps := [true = true, 0 ≤ (0 : Int) ∧ (0 : Int) < (2 : Nat), takeA [.int .i64 x0, .int .i64 y0, .int .i64 x1, .int .i64 y1] 0 2 false = some (.agg [.int .i64 x0, .int .i64 y0]), (decide (x0 < (IntKind.i64.wrap (0 - n)))) = false, (decide (x0 > n)) = false, (decide (y0 < (IntKind.i64.wrap (0 - n)))) = false, (decide (y0 > n)) = false, true = true, 0 ≤ (1 : Int) ∧ (1 : Int) < (2 : Nat), takeA [.int .i64 x1, .int .i64 y1] 0 2 false = some (.agg [.int .i64 x1, .int .i64 y1]), (decide (x1 < (IntKind.i64.wrap (0 - n)))) = false, (decide (x1 > n)) = true, true = true, true = true]) TLoop_holds rfl 300 rfl [.b true, .v (.agg [.int .i64 x0, .int .i64 y0]), .b false, .b false, .b false, .b false, .b true, .v (.agg [.int .i64 x1, .int .i64 y1]), .b false, .b true, .b true, .b true] (by kernel_rfl) ⟨rfl, (by decide), rfl, c1, c2, c3, c4, rfl, (by decide), rfl, c5, c6, rfl, rfl, trivial⟩
          · exact Runs.script (r := .bool false) (ps := [true = true, 0 ≤ (0 : Int) ∧ (0 : Int) < (2 : Nat), takeA [.int .i64 x0, .int .i64 y0, .int .i64 x1, .int .i64 y1] 0 2 false = some (.agg [.int .i64 x0, .int .i64 y0]), (decide (x0 < (IntKind.i64.wrap (0 - n)))) = false, (decide (x0 > n)) = false, (decide (y0 < (IntKind.i64.wrap (0 - n)))) = false, (decide (y0 > n)) = false, true = true, 0 ≤ (1 : Int) ∧ (1 : Int) < (2 : Nat), takeA [.int .i64 x1, .int .i64 y1] 0 2 false = some (.agg [.int .i64 x1, .int .i64 y1]), (decide (x1 < (IntKind.i64.wrap (0 - n)))) = true, true = true, true = true, true = true]) TLoop_holds rfl 300 rfl [.b true, .v (.agg [.int .i64 x0, .int .i64 y0]), .b false, .b false, .b false, .b false, .b true, .v (.agg [.int .i64 x1, .int .i64 y1]), .b true, .b true, .b true, .b true] (by kernel_rfl) ⟨rfl, (by decide), rfl, c1, c2, c3, c4, rfl, (by decide), rfl, c5, rfl, rfl, rfl, trivial⟩
        · exact Runs.script (r := .bool false) (ps := [true = true, 0 ≤ (0 : Int) ∧ (0 : Int) < (2 : Nat), takeA [.int .i64 x0, .int .i64 y0, .int .i64 x1, .int .i64 y1] 0 2 false = some (.agg [.int .i64 x0, .int .i64 y0]), (decide (x0 < (IntKind.i64.wrap (0 - n)))) = false, (decide (x0 > n)) = false, (decide (y0 < (IntKind.i64.wrap (0 - n)))) = false, (decide (y0 > n)) = true]) TLoop_holds rfl 300 rfl [.b true, .v (.agg [.int .i64 x0, .int .i64 y0]), .b false, .b false, .b false, .b true] (by kernel_rfl) ⟨rfl, (by decide), rfl, c1, c2, c3, c4, trivial⟩
      · exact Runs.script (r := .bool false) (ps := [true = true, 0 ≤ (0 : Int) ∧ (0 : Int) < (2 : Nat), takeA [.int .i64 x0, .int .i64 y0, .int .i64 x1, .int .i64 y1] 0 2 false = some (.agg [.int .i64 x0, .int .i64 y0]), (decide (x0 < (IntKind.i64.wrap (0 - n)))) = false, (decide (x0 > n)) = false, (decide (y0 < (IntKind.i64.wrap (0 - n)))) = true, true = true]) TLoop_holds rfl 300 rfl [.b true, .v (.agg [.int .i64 x0, .int .i64 y0]), .b false, .b false, .b true, .b true] (by kernel_rfl) ⟨rfl, (by decide), rfl, c1, c2, c3, rfl, trivial⟩
    · exact Runs.script (r := .bool false) (ps := [true = true, 0 ≤ (0 : Int) ∧ (0 : Int) < (2 : Nat), takeA [.int .i64 x0, .int .i64 y0, .int .i64 x1, .int .i64 y1] 0 2 false = some (.agg [.int .i64 x0, .int .i64 y0]), (decide (x0 < (IntKind.i64.wrap (0 - n)))) = false, (decide (x0 > n)) = true, true = true, true = true]) TLoop_holds rfl 300 rfl [.b true, .v (.agg [.int .i64 x0, .int .i64 y0]), .b false, .b true, .b true, .b true] (by kernel_rfl) ⟨rfl, (by decide), rfl, c1, c2, rfl, rfl, trivial⟩
  · exact Runs.script (r := .bool false) (ps := [true = true, 0 ≤ (0 : Int) ∧ (0 : Int) < (2 : Nat), takeA [.int .i64 x0, .int .i64 y0, .int .i64 x1, .int .i64 y1] 0 2 false = some (.agg [.int .i64 x0, .int .i64 y0]), (decide (x0 < (IntKind.i64.wrap (0 - n)))) = true, true = true, true = true, true = true]) TLoop_holds rfl 300 rfl [.b true, .v (.agg [.int .i64 x0, .int .i64 y0]), .b true, .b true, .b true, .b true] (by kernel_rfl) ⟨rfl, (by decide), rfl, c1, rfl, rfl, rfl, trivial⟩
theorem e27_2 (n x0 y0 x1 y1 : Int) (h0 : 0 ≤ n) (h1 : n ≤ 4611686018427387904) : Tryz.sh27_2 n x0 y0 x1 y1 = .bool (boxB n x0 y0 && boxB n x1 y1) := by
  unfold Tryz.sh27_2 boxB
  simp only [Int.zero_sub, w64 (n := -n) (by omega) (by omega)]
  repeat' split
  all_goals (simp_all <;> omega)

def g27 : List AV → Option (AV × List Prop)
  | [.int .i64 n, .sl 1 [.int .i64 x0, .int .i64 y0]] => some (.bool (boxB n x0 y0), [0 ≤ n, n ≤ 4611686018427387904])
  | [.int .i64 n, .sl 2 [.int .i64 x0, .int .i64 y0, .int .i64 x1, .int .i64 y1]] => some (.bool (boxB n x0 y0 && boxB n x1 y1), [0 ≤ n, n ≤ 4611686018427387904])
  | _ => none
def TW1 : Table := (27, g27) :: TLoop
theorem TW1_holds : THolds Tryz.ir TW1 := THolds.cons TLoop_holds (by
  intro args r ps h hp
  unfold g27 at h
  split at h
  · cases h; exact e27_1 _ _ _  hp.1 hp.2.1 ▸ Tryz.run27_1 _ _ _ 
  · cases h; exact e27_2 _ _ _ _ _  hp.1 hp.2.1 ▸ Tryz.run27_2 _ _ _ _ _ 
  · cases h)

def mul64 (x y : Int) : Int × Int :=
  (IntKind.u64.wrap ((IntKind.u64.wrap ((IntKind.u64.wrap ((Int.fdiv x (2 ^ (min (Int.toNat 32) (IntKind.bits .u64)))) * (Int.fdiv y (2 ^ (min (Int.toNat 32) (IntKind.bits .u64)))))) + (Int.fdiv (IntKind.u64.wrap ((IntKind.u64.wrap ((Int.fdiv x (2 ^ (min (Int.toNat 32) (IntKind.bits .u64)))) * (IntKind.u64.wrap ((BitVec.ofInt (IntKind.bits .u64) y &&& BitVec.ofInt (IntKind.bits .u64) 4294967295).toNat)))) + (Int.fdiv (IntKind.u64.wrap ((IntKind.u64.wrap ((BitVec.ofInt (IntKind.bits .u64) x &&& BitVec.ofInt (IntKind.bits .u64) 4294967295).toNat)) * (IntKind.u64.wrap ((BitVec.ofInt (IntKind.bits .u64) y &&& BitVec.ofInt (IntKind.bits .u64) 4294967295).toNat)))) (2 ^ (min (Int.toNat 32) (IntKind.bits .u64)))))) (2 ^ (min (Int.toNat 32) (IntKind.bits .u64)))))) + (Int.fdiv (IntKind.u64.wrap ((IntKind.u64.wrap ((BitVec.ofInt (IntKind.bits .u64) (IntKind.u64.wrap ((IntKind.u64.wrap ((Int.fdiv x (2 ^ (min (Int.toNat 32) (IntKind.bits .u64)))) * (IntKind.u64.wrap ((BitVec.ofInt (IntKind.bits .u64) y &&& BitVec.ofInt (IntKind.bits .u64) 4294967295).toNat)))) + (Int.fdiv (IntKind.u64.wrap ((IntKind.u64.wrap ((BitVec.ofInt (IntKind.bits .u64) x &&& BitVec.ofInt (IntKind.bits .u64) 4294967295).toNat)) * (IntKind.u64.wrap ((BitVec.ofInt (IntKind.bits .u64) y &&& BitVec.ofInt (IntKind.bits .u64) 4294967295).toNat)))) (2 ^ (min (Int.toNat 32) (IntKind.bits .u64)))))) &&& BitVec.ofInt (IntKind.bits .u64) 4294967295).toNat)) + (IntKind.u64.wrap ((IntKind.u64.wrap ((BitVec.ofInt (IntKind.bits .u64) x &&& BitVec.ofInt (IntKind.bits .u64) 4294967295).toNat)) * (Int.fdiv y (2 ^ (min (Int.toNat 32) (IntKind.bits .u64)))))))) (2 ^ (min (Int.toNat 32) (IntKind.bits .u64))))), IntKind.u64.wrap (x * y))
theorem Tryz.run64 (x y : Int)  : Runs Tryz.ir 64 [.int .u64 x, .int .u64 y] (.tup [.int .u64 ((mul64 x y).1), .int .u64 ((mul64 x y).2)]) := by
  unfold mul64
  exact Runs.script (r := .tup [.int .u64 (IntKind.u64.wrap ((IntKind.u64.wrap ((IntKind.u64.wrap ((Int.fdiv x (2 ^ (min (Int.toNat 32) (IntKind.bits .u64)))) * (Int.fdiv y (2 ^ (min (Int.toNat 32) (IntKind.bits .u64)))))) + (Int.fdiv (IntKind.u64.wrap ((IntKind.u64.wrap ((Int.fdiv x (2 ^ (min (Int.toNat 32) (IntKind.bits .u64)))) * (IntKind.u64.wrap ((BitVec.ofInt (IntKind.bits .u64) y &&& BitVec.ofInt (IntKind.bits .u64) 4294967295).toNat)))) + (Int.fdiv (IntKind.u64.wrap ((IntKind.u64.wrap ((BitVec.ofInt (IntKind.bits .u64) x &&& BitVec.ofInt (IntKind.bits .u64) 4294967295).toNat)) * (IntKind.u64.wrap ((BitVec.ofInt (IntKind.bits .u64) y &&& BitVec.ofInt (IntKind.bits .u64) 4294967295).toNat)))) (2 ^ (min (Int.toNat 32) (IntKind.bits .u64)))))) (2 ^ (min (Int.toNat 32) (IntKind.bits .u64)))))) + (Int.fdiv (IntKind.u64.wrap ((IntKind.u64.wrap ((BitVec.ofInt (IntKind.bits .u64) (IntKind.u64.wrap ((IntKind.u64.wrap ((Int.fdiv x (2 ^ (min (Int.toNat 32) (IntKind.bits .u64)))) * (IntKind.u64.wrap ((BitVec.ofInt (IntKind.bits .u64) y &&& BitVec.ofInt (IntKind.bits .u64) 4294967295).toNat)))) + (Int.fdiv (IntKind.u64.wrap ((IntKind.u64.wrap ((BitVec.ofInt (IntKind.bits .u64) x &&& BitVec.ofInt (IntKind.bits .u64) 4294967295).toNat)) * (IntKind.u64.wrap ((BitVec.ofInt (IntKind.bits .u64) y &&& BitVec.ofInt (IntKind.bits .u64) 4294967295).toNat)))) (2 ^ (min (Int.toNat 32) (IntKind.bits .u64)))))) &&& BitVec.ofInt (IntKind.bits .u64) 4294967295).toNat)) + (IntKind.u64.wrap ((IntKind.u64.wrap ((BitVec.ofInt (IntKind.bits .u64) x &&& BitVec.ofInt (IntKind.bits .u64) 4294967295).toNat)) * (Int.fdiv y (2 ^ (min (Int.toNat 32) (IntKind.bits .u64)))))))) (2 ^ (min (Int.toNat 32) (IntKind.bits .u64)))))), .int .u64 (IntKind.u64.wrap (x * y))]) (ps := [¬ (32 : Int) < 0, ¬ (32 : Int) < 0, ¬ (32 : Int) < 0, ¬ (32 : Int) < 0, ¬ (32 : Int) < 0]) TW1_holds rfl 300 rfl [] (by kernel_rfl) ⟨(by decide), (by decide), (by decide), (by decide), (by decide), trivial⟩

def absI (n : Int) : Int := if n < 0 then -n else n
theorem absI_nonneg (n : Int) : 0 ≤ absI n := by unfold absI; split <;> omega
theorem absI_lt {n : Int} (h : -9223372036854775808 ≤ n ∧ n ≤ 9223372036854775807) : absI n ≤ 9223372036854775808 := by unfold absI; split <;> omega

theorem wu64 {n : Int} (h1 : 0 ≤ n) (h2 : n < 18446744073709551616) : IntKind.u64.wrap n = n := by
  simp only [IntKind.wrap, IntKind.bits, IntKind.signed, Bool.false_and, Bool.false_eq_true, if_false]
  omega
theorem wu64_mod (n : Int) : IntKind.u64.wrap n = n % 18446744073709551616 := by
  simp only [IntKind.wrap, IntKind.bits, IntKind.signed, Bool.false_and, Bool.false_eq_true, if_false]
  omega

theorem mask32 {x : Int} (h1 : 0 ≤ x) (h2 : x < 18446744073709551616) : IntKind.u64.wrap ((BitVec.ofInt (IntKind.bits .u64) x &&& BitVec.ofInt (IntKind.bits .u64) 4294967295).toNat) = x % 4294967296 := by
  obtain ⟨n, rfl⟩ : ∃ n : Nat, x = n := ⟨x.toNat, by omega⟩
  show IntKind.u64.wrap ((BitVec.ofInt 64 (n : Int) &&& BitVec.ofInt 64 ((4294967295 : Nat) : Int)).toNat : Int) = _
  rw [BitVec.toNat_and, BitVec.ofInt_natCast, BitVec.ofInt_natCast, BitVec.toNat_ofNat, BitVec.toNat_ofNat, Nat.mod_eq_of_lt (by omega), Nat.mod_eq_of_lt (by omega)]
  have : n &&& 4294967295 = n % 4294967296 := Nat.and_two_pow_sub_one_eq_mod n 32
  rw [this]
  have := Nat.mod_lt n (show 0 < 4294967296 by omega)
  rw [wu64 (by omega) (by omega)]
  omega

theorem shr32 {x : Int} : Int.fdiv x (2 ^ (min (Int.toNat 32) (IntKind.bits .u64))) = x / 4294967296 := by
  show Int.fdiv x 4294967296 = _
  rw [Int.fdiv_eq_ediv_of_nonneg _ (by omega)]

theorem mul_le2 {a b M : Int} (h1 : 0 ≤ a) (h2 : a ≤ M) (h3 : 0 ≤ b) (h4 : b ≤ M) : 0 ≤ a * b ∧ a * b ≤ M * M :=
  ⟨Int.mul_nonneg h1 h3, Int.mul_le_mul h2 h4 h3 (by omega)⟩

theorem mul64_eq {x y : Int} (h : 0 ≤ x ∧ x < 18446744073709551616 ∧ 0 ≤ y ∧ y < 18446744073709551616) : mul64 x y = ((x * y) / 18446744073709551616, (x * y) % 18446744073709551616) := by
  obtain ⟨hx1, hx2, hy1, hy2⟩ := h
  unfold mul64
  rw [mask32 hx1 hx2, mask32 hy1 hy2]
  simp only [shr32]
  generalize hX1 : x / 4294967296 = a
  generalize hX0 : x % 4294967296 = b
  generalize hY1 : y / 4294967296 = c
  generalize hY0 : y % 4294967296 = d
  have p1 := mul_le2 (a := a) (b := c) (M := 4294967295) (by omega) (by omega) (by omega) (by omega)
  have p2 := mul_le2 (a := a) (b := d) (M := 4294967295) (by omega) (by omega) (by omega) (by omega)
  have p3 := mul_le2 (a := b) (b := c) (M := 4294967295) (by omega) (by omega) (by omega) (by omega)
  have p4 := mul_le2 (a := b) (b := d) (M := 4294967295) (by omega) (by omega) (by omega) (by omega)
  have e : x * y = (a * c) * 18446744073709551616 + (a * d + b * c) * 4294967296 + b * d := by
    have ex : x = a * 4294967296 + b := by omega
    have ey : y = c * 4294967296 + d := by omega
    rw [ex, ey]; grind
  rw [wu64 (n := b * d) (by omega) (by omega), wu64 (n := a * d) (by omega) (by omega), wu64 (n := a * c) (by omega) (by omega), wu64 (n := b * c) (by omega) (by omega)]
  rw [wu64 (n := a * d + b * d / 4294967296) (by omega) (by omega)]
  rw [mask32 (by omega) (by omega)]
  rw [wu64 (n := (a * d + b * d / 4294967296) % 4294967296 + b * c) (by omega) (by omega)]
  rw [wu64 (n := a * c + (a * d + b * d / 4294967296) / 4294967296) (by omega) (by omega)]
  rw [wu64 (by omega) (by omega), wu64_mod (x * y), e]
  congr 1
  omega


theorem mul64_row {x y : Int} (h : 0 ≤ x ∧ x < 18446744073709551616 ∧ 0 ≤ y ∧ y < 18446744073709551616) : Runs Tryz.ir 64 [.int .u64 x, .int .u64 y] (.tup [.int .u64 ((x * y) / 18446744073709551616), .int .u64 ((x * y) % 18446744073709551616)]) := by
  have := Tryz.run64 x y
  rw [mul64_eq h] at this
  exact this
theorem u64_two (x y : Int) : 0 ≤ IntKind.u64.wrap x ∧ IntKind.u64.wrap x < 18446744073709551616 ∧ 0 ≤ IntKind.u64.wrap y ∧ IntKind.u64.wrap y < 18446744073709551616 := by
  rw [wu64_mod, wu64_mod]; omega

def g64 : List AV → Option (AV × List Prop)
  | [.int .u64 x, .int .u64 y] => some (.tup [.int .u64 ((x * y) / 18446744073709551616), .int .u64 ((x * y) % 18446744073709551616)], [0 ≤ x ∧ x < 18446744073709551616 ∧ 0 ≤ y ∧ y < 18446744073709551616])
  | _ => none
def TW2 : Table := (64, g64) :: TW1
theorem TW2_holds : THolds Tryz.ir TW2 := THolds.cons TW1_holds (by
  intro args r ps h hp
  unfold g64 at h
  split at h
  · cases h; exact mul64_row hp.1
  · cases h)

def belowB (c reach n : Int) : Bool :=
  match decide ((((IntKind.u64.wrap c) * (IntKind.u64.wrap c)) / 18446744073709551616) < (((IntKind.u64.wrap (IntKind.i64.wrap (reach * reach))) * (IntKind.u64.wrap n)) / 18446744073709551616)) with
  | true => (true)
  | false => (match (((IntKind.u64.wrap c) * (IntKind.u64.wrap c)) / 18446744073709551616) == (((IntKind.u64.wrap (IntKind.i64.wrap (reach * reach))) * (IntKind.u64.wrap n)) / 18446744073709551616) with
  | true => ((decide ((((IntKind.u64.wrap c) * (IntKind.u64.wrap c)) % 18446744073709551616) < (((IntKind.u64.wrap (IntKind.i64.wrap (reach * reach))) * (IntKind.u64.wrap n)) % 18446744073709551616))))
  | false => (false))
theorem Tryz.run33 (c reach n : Int)  : Runs Tryz.ir 33 [.int .i64 c, .int .i64 reach, .int .i64 n] (.bool (belowB c reach n)) := by
  unfold belowB
  cases c1 : (decide ((((IntKind.u64.wrap c) * (IntKind.u64.wrap c)) / 18446744073709551616) < (((IntKind.u64.wrap (IntKind.i64.wrap (reach * reach))) * (IntKind.u64.wrap n)) / 18446744073709551616)))
  · cases c2 : ((((IntKind.u64.wrap c) * (IntKind.u64.wrap c)) / 18446744073709551616) == (((IntKind.u64.wrap (IntKind.i64.wrap (reach * reach))) * (IntKind.u64.wrap n)) / 18446744073709551616))
    · exact Runs.script (r := .bool false) (ps := [0 ≤ (IntKind.u64.wrap c) ∧ (IntKind.u64.wrap c) < 18446744073709551616 ∧ 0 ≤ (IntKind.u64.wrap c) ∧ (IntKind.u64.wrap c) < 18446744073709551616, 0 ≤ (IntKind.u64.wrap (IntKind.i64.wrap (reach * reach))) ∧ (IntKind.u64.wrap (IntKind.i64.wrap (reach * reach))) < 18446744073709551616 ∧ 0 ≤ (IntKind.u64.wrap n) ∧ (IntKind.u64.wrap n) < 18446744073709551616, (decide ((((IntKind.u64.wrap c) * (IntKind.u64.wrap c)) / 18446744073709551616) < (((IntKind.u64.wrap (IntKind.i64.wrap (reach * reach))) * (IntKind.u64.wrap n)) / 18446744073709551616))) = false, ((((IntKind.u64.wrap c) * (IntKind.u64.wrap c)) / 18446744073709551616) == (((IntKind.u64.wrap (IntKind.i64.wrap (reach * reach))) * (IntKind.u64.wrap n)) / 18446744073709551616)) = false, (decide ((((IntKind.u64.wrap c) * (IntKind.u64.wrap c)) / 18446744073709551616) < (((IntKind.u64.wrap (IntKind.i64.wrap (reach * reach))) * (IntKind.u64.wrap n)) / 18446744073709551616))) = false, ((((IntKind.u64.wrap c) * (IntKind.u64.wrap c)) / 18446744073709551616) == (((IntKind.u64.wrap (IntKind.i64.wrap (reach * reach))) * (IntKind.u64.wrap n)) / 18446744073709551616)) = false]) TW2_holds rfl 300 rfl [.b false, .b false, .b false, .b false] (by kernel_rfl) ⟨(u64_two _ _), (u64_two _ _), c1, c2, c1, c2, trivial⟩
    · exact Runs.script (r := .bool (decide ((((IntKind.u64.wrap c) * (IntKind.u64.wrap c)) % 18446744073709551616) < (((IntKind.u64.wrap (IntKind.i64.wrap (reach * reach))) * (IntKind.u64.wrap n)) % 18446744073709551616)))) (ps := [0 ≤ (IntKind.u64.wrap c) ∧ (IntKind.u64.wrap c) < 18446744073709551616 ∧ 0 ≤ (IntKind.u64.wrap c) ∧ (IntKind.u64.wrap c) < 18446744073709551616, 0 ≤ (IntKind.u64.wrap (IntKind.i64.wrap (reach * reach))) ∧ (IntKind.u64.wrap (IntKind.i64.wrap (reach * reach))) < 18446744073709551616 ∧ 0 ≤ (IntKind.u64.wrap n) ∧ (IntKind.u64.wrap n) < 18446744073709551616, (decide ((((IntKind.u64.wrap c) * (IntKind.u64.wrap c)) / 18446744073709551616) < (((IntKind.u64.wrap (IntKind.i64.wrap (reach * reach))) * (IntKind.u64.wrap n)) / 18446744073709551616))) = false, ((((IntKind.u64.wrap c) * (IntKind.u64.wrap c)) / 18446744073709551616) == (((IntKind.u64.wrap (IntKind.i64.wrap (reach * reach))) * (IntKind.u64.wrap n)) / 18446744073709551616)) = true, (decide ((((IntKind.u64.wrap c) * (IntKind.u64.wrap c)) / 18446744073709551616) < (((IntKind.u64.wrap (IntKind.i64.wrap (reach * reach))) * (IntKind.u64.wrap n)) / 18446744073709551616))) = false, ((((IntKind.u64.wrap c) * (IntKind.u64.wrap c)) / 18446744073709551616) == (((IntKind.u64.wrap (IntKind.i64.wrap (reach * reach))) * (IntKind.u64.wrap n)) / 18446744073709551616)) = true]) TW2_holds rfl 300 rfl [.b false, .b true, .b false, .b true] (by kernel_rfl) ⟨(u64_two _ _), (u64_two _ _), c1, c2, c1, c2, trivial⟩
  · exact Runs.script (r := .bool true) (ps := [0 ≤ (IntKind.u64.wrap c) ∧ (IntKind.u64.wrap c) < 18446744073709551616 ∧ 0 ≤ (IntKind.u64.wrap c) ∧ (IntKind.u64.wrap c) < 18446744073709551616, 0 ≤ (IntKind.u64.wrap (IntKind.i64.wrap (reach * reach))) ∧ (IntKind.u64.wrap (IntKind.i64.wrap (reach * reach))) < 18446744073709551616 ∧ 0 ≤ (IntKind.u64.wrap n) ∧ (IntKind.u64.wrap n) < 18446744073709551616, (decide ((((IntKind.u64.wrap c) * (IntKind.u64.wrap c)) / 18446744073709551616) < (((IntKind.u64.wrap (IntKind.i64.wrap (reach * reach))) * (IntKind.u64.wrap n)) / 18446744073709551616))) = true]) TW2_holds rfl 300 rfl [.b true] (by kernel_rfl) ⟨(u64_two _ _), (u64_two _ _), c1, trivial⟩

def g33 : List AV → Option (AV × List Prop)
  | [.int .i64 c, .int .i64 reach, .int .i64 n] => some (.bool (belowB c reach n), [])
  | _ => none
def TW3 : Table := (33, g33) :: TW2
theorem TW3_holds : THolds Tryz.ir TW3 := THolds.cons TW2_holds (by
  intro args r ps h hp
  unfold g33 at h
  split at h
  · cases h; exact Tryz.run33 _ _ _ 
  · cases h)

def inDisc (p1 p2 z1 z2 reach : Int) : Bool :=
  match boxB 2097152 p1 p2 with
  | true => (match boxB 1048576 z1 z2 with
  | true => (match decide (reach < 1) with
  | true => (false)
  | false => (match decide (reach > 524288) with
  | true => (false)
  | false => ((decide ((dotI ((subV p1 p2 z1 z2).1) ((subV p1 p2 z1 z2).2) ((subV p1 p2 z1 z2).1) ((subV p1 p2 z1 z2).2)) < (IntKind.i64.wrap (reach * reach)))))))
  | false => (false))
  | false => (false)
theorem Tryz.run8 (p1 p2 z1 z2 reach : Int)  : Runs Tryz.ir 8 [.agg [.int .i64 p1, .int .i64 p2], .agg [.int .i64 z1, .int .i64 z2], .int .i64 reach] (.bool (inDisc p1 p2 z1 z2 reach)) := by
  unfold inDisc
  cases c1 : (boxB 2097152 p1 p2)
  · exact Runs.script (r := .bool false) (ps := [0 ≤ (2097152 : Int), (2097152 : Int) ≤ 4611686018427387904, (!(boxB 2097152 p1 p2)) = true, true = true, true = true, true = true]) TW3_holds rfl 300 rfl [.b true, .b true, .b true, .b true] (by kernel_rfl) ⟨(by decide), (by decide), (by rw [c1]; rfl), rfl, rfl, rfl, trivial⟩
  · cases c2 : (boxB 1048576 z1 z2)
    · exact Runs.script (r := .bool false) (ps := [0 ≤ (2097152 : Int), (2097152 : Int) ≤ 4611686018427387904, (!(boxB 2097152 p1 p2)) = false, 0 ≤ (1048576 : Int), (1048576 : Int) ≤ 4611686018427387904, (!(boxB 1048576 z1 z2)) = true, true = true, true = true]) TW3_holds rfl 300 rfl [.b false, .b true, .b true, .b true] (by kernel_rfl) ⟨(by decide), (by decide), (by rw [c1]; rfl), (by decide), (by decide), (by rw [c2]; rfl), rfl, rfl, trivial⟩
    · cases c3 : (decide (reach < 1))
      · cases c4 : (decide (reach > 524288))
        · exact Runs.script (r := .bool (decide ((dotI ((subV p1 p2 z1 z2).1) ((subV p1 p2 z1 z2).2) ((subV p1 p2 z1 z2).1) ((subV p1 p2 z1 z2).2)) < (IntKind.i64.wrap (reach * reach))))) (ps := [0 ≤ (2097152 : Int), (2097152 : Int) ≤ 4611686018427387904, (!(boxB 2097152 p1 p2)) = false, 0 ≤ (1048576 : Int), (1048576 : Int) ≤ 4611686018427387904, (!(boxB 1048576 z1 z2)) = false, (decide (reach < 1)) = false, (decide (reach > 524288)) = false]) TW3_holds rfl 300 rfl [.b false, .b false, .b false, .b false] (by kernel_rfl) ⟨(by decide), (by decide), (by rw [c1]; rfl), (by decide), (by decide), (by rw [c2]; rfl), c3, c4, trivial⟩
        · exact Runs.script (r := .bool false) (ps := [0 ≤ (2097152 : Int), (2097152 : Int) ≤ 4611686018427387904, (!(boxB 2097152 p1 p2)) = false, 0 ≤ (1048576 : Int), (1048576 : Int) ≤ 4611686018427387904, (!(boxB 1048576 z1 z2)) = false, (decide (reach < 1)) = false, (decide (reach > 524288)) = true]) TW3_holds rfl 300 rfl [.b false, .b false, .b false, .b true] (by kernel_rfl) ⟨(by decide), (by decide), (by rw [c1]; rfl), (by decide), (by decide), (by rw [c2]; rfl), c3, c4, trivial⟩
      · exact Runs.script (r := .bool false) (ps := [0 ≤ (2097152 : Int), (2097152 : Int) ≤ 4611686018427387904, (!(boxB 2097152 p1 p2)) = false, 0 ≤ (1048576 : Int), (1048576 : Int) ≤ 4611686018427387904, (!(boxB 1048576 z1 z2)) = false, (decide (reach < 1)) = true, true = true]) TW3_holds rfl 300 rfl [.b false, .b false, .b true, .b true] (by kernel_rfl) ⟨(by decide), (by decide), (by rw [c1]; rfl), (by decide), (by decide), (by rw [c2]; rfl), c3, rfl, trivial⟩

def g8 : List AV → Option (AV × List Prop)
  | [.agg [.int .i64 p1, .int .i64 p2], .agg [.int .i64 z1, .int .i64 z2], .int .i64 reach] => some (.bool (inDisc p1 p2 z1 z2 reach), [])
  | _ => none
def TW4 : Table := (8, g8) :: TW3
theorem TW4_holds : THolds Tryz.ir TW4 := THolds.cons TW3_holds (by
  intro args r ps h hp
  unfold g8 at h
  split at h
  · cases h; exact Tryz.run8 _ _ _ _ _ 
  · cases h)

def inCap (p1 p2 a1 a2 b1 b2 reach : Int) : Bool :=
  match boxB 2097152 p1 p2 with
  | true => (match boxB 1048576 a1 a2 && boxB 1048576 b1 b2 with
  | true => (match decide (reach < 1) with
  | true => (false)
  | false => (match decide (reach > 524288) with
  | true => (false)
  | false => (match inDisc p1 p2 a1 a2 reach with
  | true => (true)
  | false => (match inDisc p1 p2 b1 b2 reach with
  | true => (true)
  | false => (match decide ((dotI ((subV p1 p2 a1 a2).1) ((subV p1 p2 a1 a2).2) ((subV b1 b2 a1 a2).1) ((subV b1 b2 a1 a2).2)) ≤ 0) with
  | true => (false)
  | false => (match decide ((dotI ((subV p1 p2 a1 a2).1) ((subV p1 p2 a1 a2).2) ((subV b1 b2 a1 a2).1) ((subV b1 b2 a1 a2).2)) ≥ (dotI ((subV b1 b2 a1 a2).1) ((subV b1 b2 a1 a2).2) ((subV b1 b2 a1 a2).1) ((subV b1 b2 a1 a2).2))) with
  | true => (false)
  | false => ((belowB (if (IntKind.i64.wrap (0 - (crossI ((subV b1 b2 a1 a2).1) ((subV b1 b2 a1 a2).2) ((subV p1 p2 a1 a2).1) ((subV p1 p2 a1 a2).2)))) > (crossI ((subV b1 b2 a1 a2).1) ((subV b1 b2 a1 a2).2) ((subV p1 p2 a1 a2).1) ((subV p1 p2 a1 a2).2)) then (IntKind.i64.wrap (0 - (crossI ((subV b1 b2 a1 a2).1) ((subV b1 b2 a1 a2).2) ((subV p1 p2 a1 a2).1) ((subV p1 p2 a1 a2).2)))) else (crossI ((subV b1 b2 a1 a2).1) ((subV b1 b2 a1 a2).2) ((subV p1 p2 a1 a2).1) ((subV p1 p2 a1 a2).2))) reach (dotI ((subV b1 b2 a1 a2).1) ((subV b1 b2 a1 a2).2) ((subV b1 b2 a1 a2).1) ((subV b1 b2 a1 a2).2))))))))))
  | false => (false))
  | false => (false)
theorem Tryz.run10 (p1 p2 a1 a2 b1 b2 reach : Int)  : Runs Tryz.ir 10 [.agg [.int .i64 p1, .int .i64 p2], .agg [.int .i64 a1, .int .i64 a2], .agg [.int .i64 b1, .int .i64 b2], .int .i64 reach] (.bool (inCap p1 p2 a1 a2 b1 b2 reach)) := by
  unfold inCap
  cases c1 : (boxB 2097152 p1 p2)
  · exact Runs.script (r := .bool false) (ps := [0 ≤ (2097152 : Int), (2097152 : Int) ≤ 4611686018427387904, (!(boxB 2097152 p1 p2)) = true, true = true, true = true, true = true]) TW4_holds rfl 300 rfl [.b true, .b true, .b true, .b true] (by kernel_rfl) ⟨(by decide), (by decide), (by rw [c1]; rfl), rfl, rfl, rfl, trivial⟩
  · cases c2 : (boxB 1048576 a1 a2 && boxB 1048576 b1 b2)
    · exact Runs.script (r := .bool false) (ps := [0 ≤ (2097152 : Int), (2097152 : Int) ≤ 4611686018427387904, (!(boxB 2097152 p1 p2)) = false, 0 ≤ (1048576 : Int), (1048576 : Int) ≤ 4611686018427387904, (!(boxB 1048576 a1 a2 && boxB 1048576 b1 b2)) = true, true = true, true = true]) TW4_holds rfl 300 rfl [.b false, .b true, .b true, .b true] (by kernel_rfl) ⟨(by decide), (by decide), (by rw [c1]; rfl), (by decide), (by decide), (by rw [c2]; rfl), rfl, rfl, trivial⟩
    · cases c3 : (decide (reach < 1))
      · cases c4 : (decide (reach > 524288))
        · cases c5 : (inDisc p1 p2 a1 a2 reach)
          · cases c6 : (inDisc p1 p2 b1 b2 reach)
            · cases c7 : (decide ((dotI ((subV p1 p2 a1 a2).1) ((subV p1 p2 a1 a2).2) ((subV b1 b2 a1 a2).1) ((subV b1 b2 a1 a2).2)) ≤ 0))
              · cases c8 : (decide ((dotI ((subV p1 p2 a1 a2).1) ((subV p1 p2 a1 a2).2) ((subV b1 b2 a1 a2).1) ((subV b1 b2 a1 a2).2)) ≥ (dotI ((subV b1 b2 a1 a2).1) ((subV b1 b2 a1 a2).2) ((subV b1 b2 a1 a2).1) ((subV b1 b2 a1 a2).2))))
                · exact Runs.script (r := .bool (belowB (if (IntKind.i64.wrap (0 - (crossI ((subV b1 b2 a1 a2).1) ((subV b1 b2 a1 a2).2) ((subV p1 p2 a1 a2).1) ((subV p1 p2 a1 a2).2)))) > (crossI ((subV b1 b2 a1 a2).1) ((subV b1 b2 a1 a2).2) ((subV p1 p2 a1 a2).1) ((subV p1 p2 a1 a2).2)) then (IntKind.i64.wrap (0 - (crossI ((subV b1 b2 a1 a2).1) ((subV b1 b2 a1 a2).2) ((subV p1 p2 a1 a2).1) ((subV p1 p2 a1 a2).2)))) else (crossI ((subV b1 b2 a1 a2).1) ((subV b1 b2 a1 a2).2) ((subV p1 p2 a1 a2).1) ((subV p1 p2 a1 a2).2))) reach (dotI ((subV b1 b2 a1 a2).1) ((subV b1 b2 a1 a2).2) ((subV b1 b2 a1 a2).1) ((subV b1 b2 a1 a2).2)))) (ps := [0 ≤ (2097152 : Int), (2097152 : Int) ≤ 4611686018427387904, (!(boxB 2097152 p1 p2)) = false, 0 ≤ (1048576 : Int), (1048576 : Int) ≤ 4611686018427387904, (!(boxB 1048576 a1 a2 && boxB 1048576 b1 b2)) = false, (decide (reach < 1)) = false, (decide (reach > 524288)) = false, (inDisc p1 p2 a1 a2 reach) = false, (inDisc p1 p2 b1 b2 reach) = false, (decide ((dotI ((subV p1 p2 a1 a2).1) ((subV p1 p2 a1 a2).2) ((subV b1 b2 a1 a2).1) ((subV b1 b2 a1 a2).2)) ≤ 0)) = false, (decide ((dotI ((subV p1 p2 a1 a2).1) ((subV p1 p2 a1 a2).2) ((subV b1 b2 a1 a2).1) ((subV b1 b2 a1 a2).2)) ≥ (dotI ((subV b1 b2 a1 a2).1) ((subV b1 b2 a1 a2).2) ((subV b1 b2 a1 a2).1) ((subV b1 b2 a1 a2).2)))) = false]) TW4_holds rfl 300 rfl [.b false, .b false, .b false, .b false, .b false, .b false, .b false, .b false] (by kernel_rfl) ⟨(by decide), (by decide), (by rw [c1]; rfl), (by decide), (by decide), (by rw [c2]; rfl), c3, c4, c5, c6, c7, c8, trivial⟩
                · exact Runs.script (r := .bool false) (ps := [0 ≤ (2097152 : Int), (2097152 : Int) ≤ 4611686018427387904, (!(boxB 2097152 p1 p2)) = false, 0 ≤ (1048576 : Int), (1048576 : Int) ≤ 4611686018427387904, (!(boxB 1048576 a1 a2 && boxB 1048576 b1 b2)) = false, (decide (reach < 1)) = false, (decide (reach > 524288)) = false, (inDisc p1 p2 a1 a2 reach) = false, (inDisc p1 p2 b1 b2 reach) = false, (decide ((dotI ((subV p1 p2 a1 a2).1) ((subV p1 p2 a1 a2).2) ((subV b1 b2 a1 a2).1) ((subV b1 b2 a1 a2).2)) ≤ 0)) = false, (decide ((dotI ((subV p1 p2 a1 a2).1) ((subV p1 p2 a1 a2).2) ((subV b1 b2 a1 a2).1) ((subV b1 b2 a1 a2).2)) ≥ (dotI ((subV b1 b2 a1 a2).1) ((subV b1 b2 a1 a2).2) ((subV b1 b2 a1 a2).1) ((subV b1 b2 a1 a2).2)))) = true]) TW4_holds rfl 300 rfl [.b false, .b false, .b false, .b false, .b false, .b false, .b false, .b true] (by kernel_rfl) ⟨(by decide), (by decide), (by rw [c1]; rfl), (by decide), (by decide), (by rw [c2]; rfl), c3, c4, c5, c6, c7, c8, trivial⟩
              · exact Runs.script (r := .bool false) (ps := [0 ≤ (2097152 : Int), (2097152 : Int) ≤ 4611686018427387904, (!(boxB 2097152 p1 p2)) = false, 0 ≤ (1048576 : Int), (1048576 : Int) ≤ 4611686018427387904, (!(boxB 1048576 a1 a2 && boxB 1048576 b1 b2)) = false, (decide (reach < 1)) = false, (decide (reach > 524288)) = false, (inDisc p1 p2 a1 a2 reach) = false, (inDisc p1 p2 b1 b2 reach) = false, (decide ((dotI ((subV p1 p2 a1 a2).1) ((subV p1 p2 a1 a2).2) ((subV b1 b2 a1 a2).1) ((subV b1 b2 a1 a2).2)) ≤ 0)) = true, true = true]) TW4_holds rfl 300 rfl [.b false, .b false, .b false, .b false, .b false, .b false, .b true, .b true] (by kernel_rfl) ⟨(by decide), (by decide), (by rw [c1]; rfl), (by decide), (by decide), (by rw [c2]; rfl), c3, c4, c5, c6, c7, rfl, trivial⟩
            · exact Runs.script (r := .bool true) (ps := [0 ≤ (2097152 : Int), (2097152 : Int) ≤ 4611686018427387904, (!(boxB 2097152 p1 p2)) = false, 0 ≤ (1048576 : Int), (1048576 : Int) ≤ 4611686018427387904, (!(boxB 1048576 a1 a2 && boxB 1048576 b1 b2)) = false, (decide (reach < 1)) = false, (decide (reach > 524288)) = false, (inDisc p1 p2 a1 a2 reach) = false, (inDisc p1 p2 b1 b2 reach) = true]) TW4_holds rfl 300 rfl [.b false, .b false, .b false, .b false, .b false, .b true] (by kernel_rfl) ⟨(by decide), (by decide), (by rw [c1]; rfl), (by decide), (by decide), (by rw [c2]; rfl), c3, c4, c5, c6, trivial⟩
          · exact Runs.script (r := .bool true) (ps := [0 ≤ (2097152 : Int), (2097152 : Int) ≤ 4611686018427387904, (!(boxB 2097152 p1 p2)) = false, 0 ≤ (1048576 : Int), (1048576 : Int) ≤ 4611686018427387904, (!(boxB 1048576 a1 a2 && boxB 1048576 b1 b2)) = false, (decide (reach < 1)) = false, (decide (reach > 524288)) = false, (inDisc p1 p2 a1 a2 reach) = true, true = true]) TW4_holds rfl 300 rfl [.b false, .b false, .b false, .b false, .b true, .b true] (by kernel_rfl) ⟨(by decide), (by decide), (by rw [c1]; rfl), (by decide), (by decide), (by rw [c2]; rfl), c3, c4, c5, rfl, trivial⟩
        · exact Runs.script (r := .bool false) (ps := [0 ≤ (2097152 : Int), (2097152 : Int) ≤ 4611686018427387904, (!(boxB 2097152 p1 p2)) = false, 0 ≤ (1048576 : Int), (1048576 : Int) ≤ 4611686018427387904, (!(boxB 1048576 a1 a2 && boxB 1048576 b1 b2)) = false, (decide (reach < 1)) = false, (decide (reach > 524288)) = true]) TW4_holds rfl 300 rfl [.b false, .b false, .b false, .b true] (by kernel_rfl) ⟨(by decide), (by decide), (by rw [c1]; rfl), (by decide), (by decide), (by rw [c2]; rfl), c3, c4, trivial⟩
      · exact Runs.script (r := .bool false) (ps := [0 ≤ (2097152 : Int), (2097152 : Int) ≤ 4611686018427387904, (!(boxB 2097152 p1 p2)) = false, 0 ≤ (1048576 : Int), (1048576 : Int) ≤ 4611686018427387904, (!(boxB 1048576 a1 a2 && boxB 1048576 b1 b2)) = false, (decide (reach < 1)) = true, true = true]) TW4_holds rfl 300 rfl [.b false, .b false, .b true, .b true] (by kernel_rfl) ⟨(by decide), (by decide), (by rw [c1]; rfl), (by decide), (by decide), (by rw [c2]; rfl), c3, rfl, trivial⟩

def g10 : List AV → Option (AV × List Prop)
  | [.agg [.int .i64 p1, .int .i64 p2], .agg [.int .i64 a1, .int .i64 a2], .agg [.int .i64 b1, .int .i64 b2], .int .i64 reach] => some (.bool (inCap p1 p2 a1 a2 b1 b2 reach), [])
  | _ => none
def TW5 : Table := (10, g10) :: TW4
theorem TW5_holds : THolds Tryz.ir TW5 := THolds.cons TW4_holds (by
  intro args r ps h hp
  unfold g10 at h
  split at h
  · cases h; exact Tryz.run10 _ _ _ _ _ _ _ 
  · cases h)

def discN (q1 q2 z1 z2 : Int) : Int × Int :=
  match boxB 1048576 z1 z2 with
  | true => (((halveV ((subV q1 q2 ((scaleV z1 z2 256).1) ((scaleV z1 z2 256).2)).1) ((subV q1 q2 ((scaleV z1 z2 256).1) ((scaleV z1 z2 256).2)).2)).1, (halveV ((subV q1 q2 ((scaleV z1 z2 256).1) ((scaleV z1 z2 256).2)).1) ((subV q1 q2 ((scaleV z1 z2 256).1) ((scaleV z1 z2 256).2)).2)).2))
  | false => ((0, 0))
theorem Tryz.run12 (q1 q2 z1 z2 : Int)  : Runs Tryz.ir 12 [.agg [.int .i64 q1, .int .i64 q2], .agg [.int .i64 z1, .int .i64 z2]] (.agg [.int .i64 ((discN q1 q2 z1 z2).1), .int .i64 ((discN q1 q2 z1 z2).2)]) := by
  unfold discN
  cases c1 : (boxB 1048576 z1 z2)
  · exact Runs.script (r := .agg [.int .i64 0, .int .i64 0]) (ps := [0 ≤ (1048576 : Int), (1048576 : Int) ≤ 4611686018427387904, (!(boxB 1048576 z1 z2)) = true]) TW5_holds rfl 300 rfl [.b true] (by kernel_rfl) ⟨(by decide), (by decide), (by rw [c1]; rfl), trivial⟩
  · exact Runs.script (r := .agg [.int .i64 ((halveV ((subV q1 q2 ((scaleV z1 z2 256).1) ((scaleV z1 z2 256).2)).1) ((subV q1 q2 ((scaleV z1 z2 256).1) ((scaleV z1 z2 256).2)).2)).1), .int .i64 ((halveV ((subV q1 q2 ((scaleV z1 z2 256).1) ((scaleV z1 z2 256).2)).1) ((subV q1 q2 ((scaleV z1 z2 256).1) ((scaleV z1 z2 256).2)).2)).2)]) (ps := [0 ≤ (1048576 : Int), (1048576 : Int) ≤ 4611686018427387904, (!(boxB 1048576 z1 z2)) = false]) TW5_holds rfl 300 rfl [.b false] (by kernel_rfl) ⟨(by decide), (by decide), (by rw [c1]; rfl), trivial⟩

def g12 : List AV → Option (AV × List Prop)
  | [.agg [.int .i64 q1, .int .i64 q2], .agg [.int .i64 z1, .int .i64 z2]] => some (.agg [.int .i64 ((discN q1 q2 z1 z2).1), .int .i64 ((discN q1 q2 z1 z2).2)], [])
  | _ => none
def TW6 : Table := (12, g12) :: TW5
theorem TW6_holds : THolds Tryz.ir TW6 := THolds.cons TW5_holds (by
  intro args r ps h hp
  unfold g12 at h
  split at h
  · cases h; exact Tryz.run12 _ _ _ _ 
  · cases h)

def capN (q1 q2 a1 a2 b1 b2 : Int) : Int × Int :=
  match boxB 1048576 a1 a2 && boxB 1048576 b1 b2 with
  | true => (match decide ((dotI ((subV q1 q2 ((scaleV a1 a2 256).1) ((scaleV a1 a2 256).2)).1) ((subV q1 q2 ((scaleV a1 a2 256).1) ((scaleV a1 a2 256).2)).2) ((subV b1 b2 a1 a2).1) ((subV b1 b2 a1 a2).2)) ≤ 0) with
  | true => (((discN q1 q2 a1 a2).1, (discN q1 q2 a1 a2).2))
  | false => (match decide ((dotI ((subV q1 q2 ((scaleV a1 a2 256).1) ((scaleV a1 a2 256).2)).1) ((subV q1 q2 ((scaleV a1 a2 256).1) ((scaleV a1 a2 256).2)).2) ((subV b1 b2 a1 a2).1) ((subV b1 b2 a1 a2).2)) ≥ (IntKind.i64.wrap (256 * (dotI ((subV b1 b2 a1 a2).1) ((subV b1 b2 a1 a2).2) ((subV b1 b2 a1 a2).1) ((subV b1 b2 a1 a2).2))))) with
  | true => (((discN q1 q2 b1 b2).1, (discN q1 q2 b1 b2).2))
  | false => (match decide ((crossI ((subV b1 b2 a1 a2).1) ((subV b1 b2 a1 a2).2) ((subV q1 q2 ((scaleV a1 a2 256).1) ((scaleV a1 a2 256).2)).1) ((subV q1 q2 ((scaleV a1 a2 256).1) ((scaleV a1 a2 256).2)).2)) > 0) with
  | true => (((reduceV ((perpV ((subV b1 b2 a1 a2).1) ((subV b1 b2 a1 a2).2)).1) ((perpV ((subV b1 b2 a1 a2).1) ((subV b1 b2 a1 a2).2)).2)).1, (reduceV ((perpV ((subV b1 b2 a1 a2).1) ((subV b1 b2 a1 a2).2)).1) ((perpV ((subV b1 b2 a1 a2).1) ((subV b1 b2 a1 a2).2)).2)).2))
  | false => (match decide ((crossI ((subV b1 b2 a1 a2).1) ((subV b1 b2 a1 a2).2) ((subV q1 q2 ((scaleV a1 a2 256).1) ((scaleV a1 a2 256).2)).1) ((subV q1 q2 ((scaleV a1 a2 256).1) ((scaleV a1 a2 256).2)).2)) < 0) with
  | true => (((reduceV ((perpV ((subV a1 a2 b1 b2).1) ((subV a1 a2 b1 b2).2)).1) ((perpV ((subV a1 a2 b1 b2).1) ((subV a1 a2 b1 b2).2)).2)).1, (reduceV ((perpV ((subV a1 a2 b1 b2).1) ((subV a1 a2 b1 b2).2)).1) ((perpV ((subV a1 a2 b1 b2).1) ((subV a1 a2 b1 b2).2)).2)).2))
  | false => ((0, 0))))))
  | false => ((0, 0))
theorem Tryz.run14 (q1 q2 a1 a2 b1 b2 : Int)  : Runs Tryz.ir 14 [.agg [.int .i64 q1, .int .i64 q2], .agg [.int .i64 a1, .int .i64 a2], .agg [.int .i64 b1, .int .i64 b2]] (.agg [.int .i64 ((capN q1 q2 a1 a2 b1 b2).1), .int .i64 ((capN q1 q2 a1 a2 b1 b2).2)]) := by
  unfold capN
  cases c1 : (boxB 1048576 a1 a2 && boxB 1048576 b1 b2)
  · exact Runs.script (r := .agg [.int .i64 0, .int .i64 0]) (ps := [0 ≤ (1048576 : Int), (1048576 : Int) ≤ 4611686018427387904, (!(boxB 1048576 a1 a2 && boxB 1048576 b1 b2)) = true]) TW6_holds rfl 300 rfl [.b true] (by kernel_rfl) ⟨(by decide), (by decide), (by rw [c1]; rfl), trivial⟩
  · cases c2 : (decide ((dotI ((subV q1 q2 ((scaleV a1 a2 256).1) ((scaleV a1 a2 256).2)).1) ((subV q1 q2 ((scaleV a1 a2 256).1) ((scaleV a1 a2 256).2)).2) ((subV b1 b2 a1 a2).1) ((subV b1 b2 a1 a2).2)) ≤ 0))
    · cases c3 : (decide ((dotI ((subV q1 q2 ((scaleV a1 a2 256).1) ((scaleV a1 a2 256).2)).1) ((subV q1 q2 ((scaleV a1 a2 256).1) ((scaleV a1 a2 256).2)).2) ((subV b1 b2 a1 a2).1) ((subV b1 b2 a1 a2).2)) ≥ (IntKind.i64.wrap (256 * (dotI ((subV b1 b2 a1 a2).1) ((subV b1 b2 a1 a2).2) ((subV b1 b2 a1 a2).1) ((subV b1 b2 a1 a2).2))))))
      · cases c4 : (decide ((crossI ((subV b1 b2 a1 a2).1) ((subV b1 b2 a1 a2).2) ((subV q1 q2 ((scaleV a1 a2 256).1) ((scaleV a1 a2 256).2)).1) ((subV q1 q2 ((scaleV a1 a2 256).1) ((scaleV a1 a2 256).2)).2)) > 0))
        · cases c5 : (decide ((crossI ((subV b1 b2 a1 a2).1) ((subV b1 b2 a1 a2).2) ((subV q1 q2 ((scaleV a1 a2 256).1) ((scaleV a1 a2 256).2)).1) ((subV q1 q2 ((scaleV a1 a2 256).1) ((scaleV a1 a2 256).2)).2)) < 0))
          · exact Runs.script (r := .agg [.int .i64 0, .int .i64 0]) (ps := [0 ≤ (1048576 : Int), (1048576 : Int) ≤ 4611686018427387904, (!(boxB 1048576 a1 a2 && boxB 1048576 b1 b2)) = false, (decide ((dotI ((subV q1 q2 ((scaleV a1 a2 256).1) ((scaleV a1 a2 256).2)).1) ((subV q1 q2 ((scaleV a1 a2 256).1) ((scaleV a1 a2 256).2)).2) ((subV b1 b2 a1 a2).1) ((subV b1 b2 a1 a2).2)) ≤ 0)) = false, (decide ((dotI ((subV q1 q2 ((scaleV a1 a2 256).1) ((scaleV a1 a2 256).2)).1) ((subV q1 q2 ((scaleV a1 a2 256).1) ((scaleV a1 a2 256).2)).2) ((subV b1 b2 a1 a2).1) ((subV b1 b2 a1 a2).2)) ≥ (IntKind.i64.wrap (256 * (dotI ((subV b1 b2 a1 a2).1) ((subV b1 b2 a1 a2).2) ((subV b1 b2 a1 a2).1) ((subV b1 b2 a1 a2).2)))))) = false, (decide ((crossI ((subV b1 b2 a1 a2).1) ((subV b1 b2 a1 a2).2) ((subV q1 q2 ((scaleV a1 a2 256).1) ((scaleV a1 a2 256).2)).1) ((subV q1 q2 ((scaleV a1 a2 256).1) ((scaleV a1 a2 256).2)).2)) > 0)) = false, (decide ((crossI ((subV b1 b2 a1 a2).1) ((subV b1 b2 a1 a2).2) ((subV q1 q2 ((scaleV a1 a2 256).1) ((scaleV a1 a2 256).2)).1) ((subV q1 q2 ((scaleV a1 a2 256).1) ((scaleV a1 a2 256).2)).2)) < 0)) = false]) TW6_holds rfl 300 rfl [.b false, .b false, .b false, .b false, .b false] (by kernel_rfl) ⟨(by decide), (by decide), (by rw [c1]; rfl), c2, c3, c4, c5, trivial⟩
          · exact Runs.script (r := .agg [.int .i64 ((reduceV ((perpV ((subV a1 a2 b1 b2).1) ((subV a1 a2 b1 b2).2)).1) ((perpV ((subV a1 a2 b1 b2).1) ((subV a1 a2 b1 b2).2)).2)).1), .int .i64 ((reduceV ((perpV ((subV a1 a2 b1 b2).1) ((subV a1 a2 b1 b2).2)).1) ((perpV ((subV a1 a2 b1 b2).1) ((subV a1 a2 b1 b2).2)).2)).2)]) (ps := [0 ≤ (1048576 : Int), (1048576 : Int) ≤ 4611686018427387904, (!(boxB 1048576 a1 a2 && boxB 1048576 b1 b2)) = false, (decide ((dotI ((subV q1 q2 ((scaleV a1 a2 256).1) ((scaleV a1 a2 256).2)).1) ((subV q1 q2 ((scaleV a1 a2 256).1) ((scaleV a1 a2 256).2)).2) ((subV b1 b2 a1 a2).1) ((subV b1 b2 a1 a2).2)) ≤ 0)) = false, (decide ((dotI ((subV q1 q2 ((scaleV a1 a2 256).1) ((scaleV a1 a2 256).2)).1) ((subV q1 q2 ((scaleV a1 a2 256).1) ((scaleV a1 a2 256).2)).2) ((subV b1 b2 a1 a2).1) ((subV b1 b2 a1 a2).2)) ≥ (IntKind.i64.wrap (256 * (dotI ((subV b1 b2 a1 a2).1) ((subV b1 b2 a1 a2).2) ((subV b1 b2 a1 a2).1) ((subV b1 b2 a1 a2).2)))))) = false, (decide ((crossI ((subV b1 b2 a1 a2).1) ((subV b1 b2 a1 a2).2) ((subV q1 q2 ((scaleV a1 a2 256).1) ((scaleV a1 a2 256).2)).1) ((subV q1 q2 ((scaleV a1 a2 256).1) ((scaleV a1 a2 256).2)).2)) > 0)) = false, (decide ((crossI ((subV b1 b2 a1 a2).1) ((subV b1 b2 a1 a2).2) ((subV q1 q2 ((scaleV a1 a2 256).1) ((scaleV a1 a2 256).2)).1) ((subV q1 q2 ((scaleV a1 a2 256).1) ((scaleV a1 a2 256).2)).2)) < 0)) = true]) TW6_holds rfl 300 rfl [.b false, .b false, .b false, .b false, .b true] (by kernel_rfl) ⟨(by decide), (by decide), (by rw [c1]; rfl), c2, c3, c4, c5, trivial⟩
        · exact Runs.script (r := .agg [.int .i64 ((reduceV ((perpV ((subV b1 b2 a1 a2).1) ((subV b1 b2 a1 a2).2)).1) ((perpV ((subV b1 b2 a1 a2).1) ((subV b1 b2 a1 a2).2)).2)).1), .int .i64 ((reduceV ((perpV ((subV b1 b2 a1 a2).1) ((subV b1 b2 a1 a2).2)).1) ((perpV ((subV b1 b2 a1 a2).1) ((subV b1 b2 a1 a2).2)).2)).2)]) (ps := [0 ≤ (1048576 : Int), (1048576 : Int) ≤ 4611686018427387904, (!(boxB 1048576 a1 a2 && boxB 1048576 b1 b2)) = false, (decide ((dotI ((subV q1 q2 ((scaleV a1 a2 256).1) ((scaleV a1 a2 256).2)).1) ((subV q1 q2 ((scaleV a1 a2 256).1) ((scaleV a1 a2 256).2)).2) ((subV b1 b2 a1 a2).1) ((subV b1 b2 a1 a2).2)) ≤ 0)) = false, (decide ((dotI ((subV q1 q2 ((scaleV a1 a2 256).1) ((scaleV a1 a2 256).2)).1) ((subV q1 q2 ((scaleV a1 a2 256).1) ((scaleV a1 a2 256).2)).2) ((subV b1 b2 a1 a2).1) ((subV b1 b2 a1 a2).2)) ≥ (IntKind.i64.wrap (256 * (dotI ((subV b1 b2 a1 a2).1) ((subV b1 b2 a1 a2).2) ((subV b1 b2 a1 a2).1) ((subV b1 b2 a1 a2).2)))))) = false, (decide ((crossI ((subV b1 b2 a1 a2).1) ((subV b1 b2 a1 a2).2) ((subV q1 q2 ((scaleV a1 a2 256).1) ((scaleV a1 a2 256).2)).1) ((subV q1 q2 ((scaleV a1 a2 256).1) ((scaleV a1 a2 256).2)).2)) > 0)) = true]) TW6_holds rfl 300 rfl [.b false, .b false, .b false, .b true] (by kernel_rfl) ⟨(by decide), (by decide), (by rw [c1]; rfl), c2, c3, c4, trivial⟩
      · exact Runs.script (r := .agg [.int .i64 ((discN q1 q2 b1 b2).1), .int .i64 ((discN q1 q2 b1 b2).2)]) (ps := [0 ≤ (1048576 : Int), (1048576 : Int) ≤ 4611686018427387904, (!(boxB 1048576 a1 a2 && boxB 1048576 b1 b2)) = false, (decide ((dotI ((subV q1 q2 ((scaleV a1 a2 256).1) ((scaleV a1 a2 256).2)).1) ((subV q1 q2 ((scaleV a1 a2 256).1) ((scaleV a1 a2 256).2)).2) ((subV b1 b2 a1 a2).1) ((subV b1 b2 a1 a2).2)) ≤ 0)) = false, (decide ((dotI ((subV q1 q2 ((scaleV a1 a2 256).1) ((scaleV a1 a2 256).2)).1) ((subV q1 q2 ((scaleV a1 a2 256).1) ((scaleV a1 a2 256).2)).2) ((subV b1 b2 a1 a2).1) ((subV b1 b2 a1 a2).2)) ≥ (IntKind.i64.wrap (256 * (dotI ((subV b1 b2 a1 a2).1) ((subV b1 b2 a1 a2).2) ((subV b1 b2 a1 a2).1) ((subV b1 b2 a1 a2).2)))))) = true]) TW6_holds rfl 300 rfl [.b false, .b false, .b true] (by kernel_rfl) ⟨(by decide), (by decide), (by rw [c1]; rfl), c2, c3, trivial⟩
    · exact Runs.script (r := .agg [.int .i64 ((discN q1 q2 a1 a2).1), .int .i64 ((discN q1 q2 a1 a2).2)]) (ps := [0 ≤ (1048576 : Int), (1048576 : Int) ≤ 4611686018427387904, (!(boxB 1048576 a1 a2 && boxB 1048576 b1 b2)) = false, (decide ((dotI ((subV q1 q2 ((scaleV a1 a2 256).1) ((scaleV a1 a2 256).2)).1) ((subV q1 q2 ((scaleV a1 a2 256).1) ((scaleV a1 a2 256).2)).2) ((subV b1 b2 a1 a2).1) ((subV b1 b2 a1 a2).2)) ≤ 0)) = true]) TW6_holds rfl 300 rfl [.b false, .b true] (by kernel_rfl) ⟨(by decide), (by decide), (by rw [c1]; rfl), c2, trivial⟩

def g14 : List AV → Option (AV × List Prop)
  | [.agg [.int .i64 q1, .int .i64 q2], .agg [.int .i64 a1, .int .i64 a2], .agg [.int .i64 b1, .int .i64 b2]] => some (.agg [.int .i64 ((capN q1 q2 a1 a2 b1 b2).1), .int .i64 ((capN q1 q2 a1 a2 b1 b2).2)], [])
  | _ => none
def TW7 : Table := (14, g14) :: TW6
theorem TW7_holds : THolds Tryz.ir TW7 := THolds.cons TW6_holds (by
  intro args r ps h hp
  unfold g14 at h
  split at h
  · cases h; exact Tryz.run14 _ _ _ _ _ _ 
  · cases h)

def near11 (x y : Int) : Bool :=
  match decide (x ≥ (-1048576)) with
  | true => (match decide (x ≤ 1048576) with
  | true => (match decide (y ≥ (-1048576)) with
  | true => ((decide (y ≤ 1048576)))
  | false => (false))
  | false => (false))
  | false => (false)
theorem Tryz.run17 (x y : Int)  : Runs Tryz.ir 17 [.agg [.int .i64 x, .int .i64 y]] (.bool (near11 x y)) := by
  unfold near11
  cases c1 : (decide (x ≥ (-1048576)))
  · exact Runs.script (r := .bool false) (ps := [(decide (x ≥ (-1048576))) = false, false = false, false = false]) TW7_holds rfl 300 rfl [.b false, .b false, .b false] (by kernel_rfl) ⟨c1, rfl, rfl, trivial⟩
  · cases c2 : (decide (x ≤ 1048576))
    · exact Runs.script (r := .bool false) (ps := [(decide (x ≥ (-1048576))) = true, (decide (x ≤ 1048576)) = false, false = false]) TW7_holds rfl 300 rfl [.b true, .b false, .b false] (by kernel_rfl) ⟨c1, c2, rfl, trivial⟩
    · cases c3 : (decide (y ≥ (-1048576)))
      · exact Runs.script (r := .bool false) (ps := [(decide (x ≥ (-1048576))) = true, (decide (x ≤ 1048576)) = true, (decide (y ≥ (-1048576))) = false]) TW7_holds rfl 300 rfl [.b true, .b true, .b false] (by kernel_rfl) ⟨c1, c2, c3, trivial⟩
      · exact Runs.script (r := .bool (decide (y ≤ 1048576))) (ps := [(decide (x ≥ (-1048576))) = true, (decide (x ≤ 1048576)) = true, (decide (y ≥ (-1048576))) = true]) TW7_holds rfl 300 rfl [.b true, .b true, .b true] (by kernel_rfl) ⟨c1, c2, c3, trivial⟩

def g17 : List AV → Option (AV × List Prop)
  | [.agg [.int .i64 x, .int .i64 y]] => some (.bool (near11 x y), [])
  | _ => none
def TW8 : Table := (17, g17) :: TW7
theorem TW8_holds : THolds Tryz.ir TW8 := THolds.cons TW7_holds (by
  intro args r ps h hp
  unfold g17 at h
  split at h
  · cases h; exact Tryz.run17 _ _ 
  · cases h)

def close11 (x y : Int) : Bool :=
  match decide (x ≥ (-10000)) with
  | true => (match decide (x ≤ 10000) with
  | true => (match decide (y ≥ (-10000)) with
  | true => ((decide (y ≤ 10000)))
  | false => (false))
  | false => (false))
  | false => (false)
theorem Tryz.run22 (x y : Int)  : Runs Tryz.ir 22 [.agg [.int .i64 x, .int .i64 y]] (.bool (close11 x y)) := by
  unfold close11
  cases c1 : (decide (x ≥ (-10000)))
  · exact Runs.script (r := .bool false) (ps := [(decide (x ≥ (-10000))) = false, false = false, false = false]) TW8_holds rfl 300 rfl [.b false, .b false, .b false] (by kernel_rfl) ⟨c1, rfl, rfl, trivial⟩
  · cases c2 : (decide (x ≤ 10000))
    · exact Runs.script (r := .bool false) (ps := [(decide (x ≥ (-10000))) = true, (decide (x ≤ 10000)) = false, false = false]) TW8_holds rfl 300 rfl [.b true, .b false, .b false] (by kernel_rfl) ⟨c1, c2, rfl, trivial⟩
    · cases c3 : (decide (y ≥ (-10000)))
      · exact Runs.script (r := .bool false) (ps := [(decide (x ≥ (-10000))) = true, (decide (x ≤ 10000)) = true, (decide (y ≥ (-10000))) = false]) TW8_holds rfl 300 rfl [.b true, .b true, .b false] (by kernel_rfl) ⟨c1, c2, c3, trivial⟩
      · exact Runs.script (r := .bool (decide (y ≤ 10000))) (ps := [(decide (x ≥ (-10000))) = true, (decide (x ≤ 10000)) = true, (decide (y ≥ (-10000))) = true]) TW8_holds rfl 300 rfl [.b true, .b true, .b true] (by kernel_rfl) ⟨c1, c2, c3, trivial⟩

def g22 : List AV → Option (AV × List Prop)
  | [.agg [.int .i64 x, .int .i64 y]] => some (.bool (close11 x y), [])
  | _ => none
def TW9 : Table := (22, g22) :: TW8
theorem TW9_holds : THolds Tryz.ir TW9 := THolds.cons TW8_holds (by
  intro args r ps h hp
  unfold g22 at h
  split at h
  · cases h; exact Tryz.run22 _ _ 
  · cases h)

def flip11 (x y : Int) : Int × Int :=
  (IntKind.i64.wrap (0 - x), y)
theorem Tryz.run23 (x y : Int)  : Runs Tryz.ir 23 [.agg [.int .i64 x, .int .i64 y]] (.agg [.int .i64 ((flip11 x y).1), .int .i64 ((flip11 x y).2)]) := by
  unfold flip11
  exact Runs.script (r := .agg [.int .i64 (IntKind.i64.wrap (0 - x)), .int .i64 y]) (ps := []) TW9_holds rfl 300 rfl [] (by kernel_rfl) trivial

def g23 : List AV → Option (AV × List Prop)
  | [.agg [.int .i64 x, .int .i64 y]] => some (.agg [.int .i64 ((flip11 x y).1), .int .i64 ((flip11 x y).2)], [])
  | _ => none
def TW10 : Table := (23, g23) :: TW9
theorem TW10_holds : THolds Tryz.ir TW10 := THolds.cons TW9_holds (by
  intro args r ps h hp
  unfold g23 at h
  split at h
  · cases h; exact Tryz.run23 _ _ 
  · cases h)

def g7 : List AV → Option (AV × List Prop)
  | [] => some (.bool true, [])
  | _ => none
def TW11 : Table := (7, g7) :: TW10
theorem TW11_holds : THolds Tryz.ir TW11 := THolds.cons TW10_holds (by
  intro args r ps h hp
  unfold g7 at h
  split at h
  · cases h; exact Tryz.run7
  · cases h)

def TWall : Table := TW11
theorem TWall_holds : THolds Tryz.ir TWall := TW11_holds
end Go.Proofs.YthakfjlnhldehaaGreat
