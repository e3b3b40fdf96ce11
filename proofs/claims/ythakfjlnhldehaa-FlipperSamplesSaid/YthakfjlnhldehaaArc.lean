/- Contracts of the package arc and of what it calls: what its functions return, as equations over whole numbers. -/
import Derived.Test.YthakfjlnhldehaaLoop
namespace Go.Proofs.Ythakfjlnhldehaa
open Go.Ai
set_option maxRecDepth 100000

def inB (n x y : Int) : Bool := decide (-n ≤ x) && decide (x ≤ n) && decide (-n ≤ y) && decide (y ≤ n)
theorem inB_yes {n x y : Int} (h : inB n x y = true) : -n ≤ x ∧ x ≤ n ∧ -n ≤ y ∧ y ≤ n := by
  simp [inB] at h; omega
theorem inB_mk {n x y : Int} (h : -n ≤ x ∧ x ≤ n ∧ -n ≤ y ∧ y ≤ n) : inB n x y = true := by
  simp [inB]; omega

def Try.sh42_1 (n x0 y0 : Int) : AV :=
  match decide (x0 < (IntKind.i64.wrap (0 - n))) with
  | true => (.bool false)
  | false => (match decide (x0 > n) with
  | true => (.bool false)
  | false => (match decide (y0 < (IntKind.i64.wrap (0 - n))) with
  | true => (.bool false)
  | false => (match decide (y0 > n) with
  | true => (.bool false)
  | false => (.bool true))))
theorem Try.run42_1 (n x0 y0 : Int)  : Runs Try.ir 42 [.int .i64 n, .sl 1 [.int .i64 x0, .int .i64 y0]] (Try.sh42_1 n x0 y0) := by
  unfold Try.sh42_1
  cases c1 : (decide (x0 < (IntKind.i64.wrap (0 - n))))
  · cases c2 : (decide (x0 > n))
    · cases c3 : (decide (y0 < (IntKind.i64.wrap (0 - n))))
      · cases c4 : (decide (y0 > n))
        · exact Runs.script (r := .bool true) (ps := [true = true, 0 ≤ (0 : Int) ∧ (0 : Int) < (1 : Nat), takeA [.int .i64 x0, .int .i64 y0] 0 2 false = some (.agg [.int .i64 x0, .int .i64 y0]), (decide (x0 < (IntKind.i64.wrap (0 - n)))) = false, (decide (x0 > n)) = false, (decide (y0 < (IntKind.i64.wrap (0 - n)))) = false, (decide (y0 > n)) = false, false = false]) TLoop_holds rfl 300 rfl [.b true, .v (.agg [.int .i64 x0, .int .i64 y0]), .b false, .b false, .b false, .b false, .b false] (by kernel_rfl) ⟨rfl, (by decide), rfl, c1, c2, c3, c4, rfl, trivial⟩
        · exact Runs.script (r := .bool false) (ps := [true = true, 0 ≤ (0 : Int) ∧ (0 : Int) < (1 : Nat), takeA [.int .i64 x0, .int .i64 y0] 0 2 false = some (.agg [.int .i64 x0, .int .i64 y0]), (decide (x0 < (IntKind.i64.wrap (0 - n)))) = false, (decide (x0 > n)) = false, (decide (y0 < (IntKind.i64.wrap (0 - n)))) = false, (decide (y0 > n)) = true]) TLoop_holds rfl 300 rfl [.b true, .v (.agg [.int .i64 x0, .int .i64 y0]), .b false, .b false, .b false, .b true] (by kernel_rfl) ⟨rfl, (by decide), rfl, c1, c2, c3, c4, trivial⟩
      · exact Runs.script (r := .bool false) (ps := [true = true, 0 ≤ (0 : Int) ∧ (0 : Int) < (1 : Nat), takeA [.int .i64 x0, .int .i64 y0] 0 2 false = some (.agg [.int .i64 x0, .int .i64 y0]), (decide (x0 < (IntKind.i64.wrap (0 - n)))) = false, (decide (x0 > n)) = false, (decide (y0 < (IntKind.i64.wrap (0 - n)))) = true, true = true]) TLoop_holds rfl 300 rfl [.b true, .v (.agg [.int .i64 x0, .int .i64 y0]), .b false, .b false, .b true, .b true] (by kernel_rfl) ⟨rfl, (by decide), rfl, c1, c2, c3, rfl, trivial⟩
    · exact Runs.script (r := .bool false) (ps := [true = true, 0 ≤ (0 : Int) ∧ (0 : Int) < (1 : Nat), takeA [.int .i64 x0, .int .i64 y0] 0 2 false = some (.agg [.int .i64 x0, .int .i64 y0]), (decide (x0 < (IntKind.i64.wrap (0 - n)))) = false, (decide (x0 > n)) = true, true = true, true = true]) TLoop_holds rfl 300 rfl [.b true, .v (.agg [.int .i64 x0, .int .i64 y0]), .b false, .b true, .b true, .b true] (by kernel_rfl) ⟨rfl, (by decide), rfl, c1, c2, rfl, rfl, trivial⟩
  · exact Runs.script (r := .bool false) (ps := [true = true, 0 ≤ (0 : Int) ∧ (0 : Int) < (1 : Nat), takeA [.int .i64 x0, .int .i64 y0] 0 2 false = some (.agg [.int .i64 x0, .int .i64 y0]), (decide (x0 < (IntKind.i64.wrap (0 - n)))) = true, true = true, true = true, true = true]) TLoop_holds rfl 300 rfl [.b true, .v (.agg [.int .i64 x0, .int .i64 y0]), .b true, .b true, .b true, .b true] (by kernel_rfl) ⟨rfl, (by decide), rfl, c1, rfl, rfl, rfl, trivial⟩
theorem e42_1 (n x0 y0 : Int) (h0 : 0 ≤ n) (h1 : n ≤ 4611686018427387904) : Try.sh42_1 n x0 y0 = .bool (inB n x0 y0) := by
  unfold Try.sh42_1 inB
  simp only [Int.zero_sub, w64 (n := -n) (by omega) (by omega)]
  repeat' split
  all_goals (simp_all <;> omega)

def Try.sh42_3 (n x0 y0 x1 y1 x2 y2 : Int) : AV :=
  match decide (x0 < (IntKind.i64.wrap (0 - n))) with
  | true => (.bool false)
  | false => (match decide (x0 > n) with
  | true => (.bool false)
  | false => (match decide (y0 < (IntKind.i64.wrap (0 - n))) with
  | true => (.bool false)
  | false => (match decide (y0 > n) with
  | true => (.bool false)
  | false => (match decide (x1 < (IntKind.i64.wrap (0 - n))) with
  | true => (.bool false)
  | false => (match decide (x1 > n) with
  | true => (.bool false)
  | false => (match decide (y1 < (IntKind.i64.wrap (0 - n))) with
  | true => (.bool false)
  | false => (match decide (y1 > n) with
  | true => (.bool false)
  | false => (match decide (x2 < (IntKind.i64.wrap (0 - n))) with
  | true => (.bool false)
  | false => (match decide (x2 > n) with
  | true => (.bool false)
  | false => (match decide (y2 < (IntKind.i64.wrap (0 - n))) with
  | true => (.bool false)
  | false => (match decide (y2 > n) with
  | true => (.bool false)
  | false => (.bool true))))))))))))
theorem Try.run42_3 (n x0 y0 x1 y1 x2 y2 : Int)  : Runs Try.ir 42 [.int .i64 n, .sl 3 [.int .i64 x0, .int .i64 y0, .int .i64 x1, .int .i64 y1, .int .i64 x2, .int .i64 y2]] (Try.sh42_3 n x0 y0 x1 y1 x2 y2) := by
  unfold Try.sh42_3
  cases c1 : (decide (x0 < (IntKind.i64.wrap (0 - n))))
  · cases c2 : (decide (x0 > n))
    · cases c3 : (decide (y0 < (IntKind.i64.wrap (0 - n))))
      · cases c4 : (decide (y0 > n))
        · cases c5 : (decide (x1 < (IntKind.i64.wrap (0 - n))))
          · cases c6 : (decide (x1 > n))
            · cases c7 : (decide (y1 < (IntKind.i64.wrap (0 - n))))
              · cases c8 : (decide (y1 > n))
                · cases c9 : (decide (x2 < (IntKind.i64.wrap (0 - n))))
                  · cases c10 : (decide (x2 > n))
                    · cases c11 : (decide (y2 < (IntKind.i64.wrap (0 - n))))
                      · cases c12 : (decide (y2 > n))
                        · exact Runs.script (r := .bool true) (ps := [true = true, 0 ≤ (0 : Int) ∧ (0 : Int) < (3 : Nat), takeA [.int .i64 x0, .int .i64 y0, .int .i64 x1, .int .i64 y1, .int .i64 x2, .int .i64 y2] 0 2 false = some (.agg [.int .i64 x0, .int .i64 y0]), (decide (x0 < (IntKind.i64.wrap (0 - n)))) = false, (decide (x0 > n)) = false, (decide (y0 < (IntKind.i64.wrap (0 - n)))) = false, (decide (y0 > n)) = false, true = true, 0 ≤ (1 : Int) ∧ (1 : Int) < (3 : Nat), takeA [.int .i64 x1, .int .i64 y1, .int .i64 x2, .int .i64 y2] 0 2 false = some (.agg [.int .i64 x1, .int .i64 y1]), (decide (x1 < (IntKind.i64.wrap (0 - n)))) = false, (decide (x1 > n)) = false, (decide (y1 < (IntKind.i64.wrap (0 - n)))) = false, (decide (y1 > n)) = false, true = true, 0 ≤ (2 : Int) ∧ (2 : Int) < (3 : Nat), takeA [.int .i64 x2, .int .i64 y2] 0 2 false = some (.agg [.int .i64 x2, .int .i64 y2]), (decide (x2 < (IntKind.i64.wrap (0 - n)))) = false, (decide (x2 > n)) = false, (decide (y2 < (IntKind.i64.wrap (0 - n)))) = false, (decide (y2 > n)) = false, false = false]) TLoop_holds rfl 300 rfl [.b true, .v (.agg [.int .i64 x0, .int .i64 y0]), .b false, .b false, .b false, .b false, .b true, .v (.agg [.int .i64 x1, .int .i64 y1]), .b false, .b false, .b false, .b false, .b true, .v (.agg [.int .i64 x2, .int .i64 y2]), .b false, .b false, .b false, .b false, .b false] (by kernel_rfl) ⟨rfl, (by decide), rfl, c1, c2, c3, c4, rfl, (by decide), rfl, c5, c6, c7, c8, rfl, (by decide), rfl, c9, c10, c11, c12, rfl, trivial⟩
                        · exact Runs.script (r := .bool false) (ps := [true = true, 0 ≤ (0 : Int) ∧ (0 : Int) < (3 : Nat), takeA [.int .i64 x0, .int .i64 y0, .int .i64 x1, .int .i64 y1, .int .i64 x2, .int .i64 y2] 0 2 false = some (.agg [.int .i64 x0, .int .i64 y0]), (decide (x0 < (IntKind.i64.wrap (0 - n)))) = false, (decide (x0 > n)) = false, (decide (y0 < (IntKind.i64.wrap (0 - n)))) = false, (decide (y0 > n)) = false, true = true, 0 ≤ (1 : Int) ∧ (1 : Int) < (3 : Nat), takeA [.int .i64 x1, .int .i64 y1, .int .i64 x2, .int .i64 y2] 0 2 false = some (.agg [.int .i64 x1, .int .i64 y1]), (decide (x1 < (IntKind.i64.wrap (0 - n)))) = false, (decide (x1 > n)) = false, (decide (y1 < (IntKind.i64.wrap (0 - n)))) = false, (decide (y1 > n)) = false, true = true, 0 ≤ (2 : Int) ∧ (2 : Int) < (3 : Nat), takeA [.int .i64 x2, .int .i64 y2] 0 2 false = some (.agg [.int .i64 x2, .int .i64 y2]), (decide (x2 < (IntKind.i64.wrap (0 - n)))) = false, (decide (x2 > n)) = false, (decide (y2 < (IntKind.i64.wrap (0 - n)))) = false, (decide (y2 > n)) = true]) TLoop_holds rfl 300 rfl [.b true, .v (.agg [.int .i64 x0, .int .i64 y0]), .b false, .b false, .b false, .b false, .b true, .v (.agg [.int .i64 x1, .int .i64 y1]), .b false, .b false, .b false, .b false, .b true, .v (.agg [.int .i64 x2, .int .i64 y2]), .b false, .b false, .b false, .b true] (by kernel_rfl) ⟨rfl, (by decide), rfl, c1, c2, c3, c4, rfl, (by decide), rfl, c5, c6, c7, c8, rfl, (by decide), rfl, c9, c10, c11, c12, trivial⟩
                      · exact Runs.script (r := .bool false) (ps := [true = true, 0 ≤ (0 : Int) ∧ (0 : Int) < (3 : Nat), takeA [.int .i64 x0, .int .i64 y0, .int .i64 x1, .int .i64 y1, .int .i64 x2, .int .i64 y2] 0 2 false = some (.agg [.int .i64 x0, .int .i64 y0]), (decide (x0 < (IntKind.i64.wrap (0 - n)))) = false, (decide (x0 > n)) = false, (decide (y0 < (IntKind.i64.wrap (0 - n)))) = false, (decide (y0 > n)) = false, true = true, 0 ≤ (1 : Int) ∧ (1 : Int) < (3 : Nat), takeA [.int .i64 x1, .int .i64 y1, .int .i64 x2, .int .i64 y2] 0 2 false = some (.agg [.int .i64 x1, .int .i64 y1]), (decide (x1 < (IntKind.i64.wrap (0 - n)))) = false, (decide (x1 > n)) = false, (decide (y1 < (IntKind.i64.wrap (0 - n)))) = false, (decide (y1 > n)) = false, true = true, 0 ≤ (2 : Int) ∧ (2 : Int) < (3 : Nat), takeA [.int .i64 x2, .int .i64 y2] 0 2 false = some (.agg [.int .i64 x2, .int .i64 y2]), (decide (x2 < (IntKind.i64.wrap (0 - n)))) = false, (decide (x2 > n)) = false, (decide (y2 < (IntKind.i64.wrap (0 - n)))) = true, true = true]) TLoop_holds rfl 300 rfl [.b true, .v (.agg [.int .i64 x0, .int .i64 y0]), .b false, .b false, .b false, .b false, .b true, .v (.agg [.int .i64 x1, .int .i64 y1]), .b false, .b false, .b false, .b false, .b true, .v (.agg [.int .i64 x2, .int .i64 y2]), .b false, .b false, .b true, .b true] (by kernel_rfl) ⟨rfl, (by decide), rfl, c1, c2, c3, c4, rfl, (by decide), rfl, c5, c6, c7, c8, rfl, (by decide), rfl, c9, c10, c11, rfl, trivial⟩
                    · exact Runs.script (r := .bool false) (ps := [true = true, 0 ≤ (0 : Int) ∧ (0 : Int) < (3 : Nat), takeA [.int .i64 x0, .int .i64 y0, .int .i64 x1, .int .i64 y1, .int .i64 x2, .int .i64 y2] 0 2 false = some (.agg [.int .i64 x0, .int .i64 y0]), (decide (x0 < (IntKind.i64.wrap (0 - n)))) = false, (decide (x0 > n)) = false, (decide (y0 < (IntKind.i64.wrap (0 - n)))) = false, (decide (y0 > n)) = false, true = true, 0 ≤ (1 : Int) ∧ (1 : Int) < (3 : Nat), takeA [.int .i64 x1, .int .i64 y1, .int .i64 x2, .int .i64 y2] 0 2 false = some (.agg [.int .i64 x1, .int .i64 y1]), (decide (x1 < (IntKind.i64.wrap (0 - n)))) = false, (decide (x1 > n)) = false, (decide (y1 < (IntKind.i64.wrap (0 - n)))) = false, (decide (y1 > n)) = false, true = true, 0 ≤ (2 : Int) ∧ (2 : Int) < (3 : Nat), takeA [.int .i64 x2, .int .i64 y2] 0 2 false = some (.agg [.int .i64 x2, .int .i64 y2]), (decide (x2 < (IntKind.i64.wrap (0 - n)))) = false, (decide (x2 > n)) = true, true = true, true = true]) TLoop_holds rfl 300 rfl [.b true, .v (.agg [.int .i64 x0, .int .i64 y0]), .b false, .b false, .b false, .b false, .b true, .v (.agg [.int .i64 x1, .int .i64 y1]), .b false, .b false, .b false, .b false, .b true, .v (.agg [.int .i64 x2, .int .i64 y2]), .b false, .b true, .b true, .b true] (by kernel_rfl) ⟨rfl, (by decide), rfl, c1, c2, c3, c4, rfl, (by decide), rfl, c5, c6, c7, c8, rfl, (by decide), rfl, c9, c10, rfl, rfl, trivial⟩
                  · exact Runs.script (r := .bool false) (ps := [true = true, 0 ≤ (0 : Int) ∧ (0 : Int) < (3 : Nat), takeA [.int .i64 x0, .int .i64 y0, .int .i64 x1, .int .i64 y1, .int .i64 x2, .int .i64 y2] 0 2 false = some (.agg [.int .i64 x0, .int .i64 y0]), (decide (x0 < (IntKind.i64.wrap (0 - n)))) = false, (decide (x0 > n)) = false, (decide (y0 < (IntKind.i64.wrap (0 - n)))) = false, (decide (y0 > n)) = false, true = true, 0 ≤ (1 : Int) ∧ (1 : Int) < (3 : Nat), takeA [.int .i64 x1, .int .i64 y1, .int .i64 x2, .int .i64 y2] 0 2 false = some (.agg [.int .i64 x1, .int .i64 y1]), (decide (x1 < (IntKind.i64.wrap (0 - n)))) = false, (decide (x1 > n)) = false, (decide (y1 < (IntKind.i64.wrap (0 - n)))) = false, (decide (y1 > n)) = false, true = true, 0 ≤ (2 : Int) ∧ (2 : Int) < (3 : Nat), takeA [.int .i64 x2, .int .i64 y2] 0 2 false = some (.agg [.int .i64 x2, .int .i64 y2]), (decide (x2 < (IntKind.i64.wrap (0 - n)))) = true, true = true, true = true, true = true]) TLoop_holds rfl 300 rfl [.b true, .v (.agg [.int .i64 x0, .int .i64 y0]), .b false, .b false, .b false, .b false, .b true, .v (.agg [.int .i64 x1, .int .i64 y1]), .b false, .b false, .b false, .b false, .b true, .v (.agg [.int .i64 x2, .int .i64 y2]), .b true, .b true, .b true, .b true] (by kernel_rfl) ⟨rfl, (by decide), rfl, c1, c2, c3, c4, rfl, (by decide), rfl, c5, c6, c7, c8, rfl, (by decide), rfl, c9, rfl, rfl, rfl, trivial⟩
                · exact Runs.script (r := .bool false) (ps := [true = true, 0 ≤ (0 : Int) ∧ (0 : Int) < (3 : Nat), takeA [.int .i64 x0, .int .i64 y0, .int .i64 x1, .int .i64 y1, .int .i64 x2, .int .i64 y2] 0 2 false = some (.agg [.int .i64 x0, .int .i64 y0]), (decide (x0 < (IntKind.i64.wrap (0 - n)))) = false, (decide (x0 > n)) = false, (decide (y0 < (IntKind.i64.wrap (0 - n)))) = false, (decide (y0 > n)) = false, true = true, 0 ≤ (1 : Int) ∧ (1 : Int) < (3 : Nat), takeA [.int .i64 x1, .int .i64 y1, .int .i64 x2, .int .i64 y2] 0 2 false = some (.agg [.int .i64 x1, .int .i64 y1]), (decide (x1 < (IntKind.i64.wrap (0 - n)))) = false, (decide (x1 > n)) = false, (decide (y1 < (IntKind.i64.wrap (0 - n)))) = false, (decide (y1 > n)) = true]) TLoop_holds rfl 300 rfl [.b true, .v (.agg [.int .i64 x0, .int .i64 y0]), .b false, .b false, .b false, .b false, .b true, .v (.agg [.int .i64 x1, .int .i64 y1]), .b false, .b false, .b false, .b true] (by kernel_rfl) ⟨rfl, (by decide), rfl, c1, c2, c3, c4, rfl, (by decide), rfl, c5, c6, c7, c8, trivial⟩
              · exact Runs.script (r := .bool false) (ps := [true = true, 0 ≤ (0 : Int) ∧ (0 : Int) < (3 : Nat), takeA [.int .i64 x0, .int .i64 y0, .int .i64 x1, .int .i64 y1, .int .i64 x2, .int .i64 y2] 0 2 false = some (.agg [.int .i64 x0, .int .i64 y0]), (decide (x0 < (IntKind.i64.wrap (0 - n)))) = false, (decide (x0 > n)) = false, (decide (y0 < (IntKind.i64.wrap (0 - n)))) = false, (decide (y0 > n)) = false, true = true, 0 ≤ (1 : Int) ∧ (1 : Int) < (3 : Nat), takeA [.int .i64 x1, .int .i64 y1, .int .i64 x2, .int .i64 y2] 0 2 false = some (.agg [.int .i64 x1, .int .i64 y1]), (decide (x1 < (IntKind.i64.wrap (0 - n)))) = false, (decide (x1 > n)) = false, (decide (y1 < (IntKind.i64.wrap (0 - n)))) = true, true = true]) TLoop_holds rfl 300 rfl [.b true, .v (.agg [.int .i64 x0, .int .i64 y0]), .b false, .b false, .b false, .b false, .b true, .v (.agg [.int .i64 x1, .int .i64 y1]), .b false, .b false, .b true, .b true] (by kernel_rfl) ⟨rfl, (by decide), rfl, c1, c2, c3, c4, rfl, (by decide), rfl, c5, c6, c7, rfl, trivial⟩
            · exact Runs.script (r := .bool false) (ps := [true = true, 0 ≤ (0 : Int) ∧ (0 : Int) < (3 : Nat), takeA [.int .i64 x0, .int .i64 y0, .int .i64 x1, .int .i64 y1, .int .i64 x2, .int .i64 y2] 0 2 false = some (.agg [.int .i64 x0, .int .i64 y0]), (decide (x0 < (IntKind.i64.wrap (0 - n)))) = false, (decide (x0 > n)) = false, (decide (y0 < (IntKind.i64.wrap (0 - n)))) = false, (decide (y0 > n)) = false, true = true, 0 ≤ (1 : Int) ∧ (1 : Int) < (3 : Nat), takeA [.int .i64 x1, .int .i64 y1, .int .i64 x2, .int .i64 y2] 0 2 false = some (.agg [.int .i64 x1, .int .i64 y1]), (decide (x1 < (IntKind.i64.wrap (0 - n)))) = false, (decide (x1 > n)) = true, true = true, true = true]) TLoop_holds rfl 300 rfl [.b true, .v (.agg [.int .i64 x0, .int .i64 y0]), .b false, .b false, .b false, .b false, .b true, .v (.agg [.int .i64 x1, .int .i64 y1]), .b false, .b true, .b true, .b true] (by kernel_rfl) ⟨rfl, (by decide), rfl, c1, c2, c3, c4, rfl, (by decide), rfl, c5, c6, rfl, rfl, trivial⟩
          · exact Runs.script (r := .bool false) (ps := [true = true, 0 ≤ (0 : Int) ∧ (0 : Int) < (3 : Nat), takeA [.int .i64 x0, .int .i64 y0, .int .i64 x1, .int .i64 y1, .int .i64 x2, .int .i64 y2] 0 2 false = some (.agg [.int .i64 x0, .int .i64 y0]), (decide (x0 < (IntKind.i64.wrap (0 - n)))) = false, (decide (x0 > n)) = false, (decide (y0 < (IntKind.i64.wrap (0 - n)))) = false, (decide (y0 > n)) = false, true = true, 0 ≤ (1 : Int) ∧ (1 : Int) < (3 : Nat), takeA [.int .i64 x1, .int .i64 y1, .int .i64 x2, .int .i64 y2] 0 2 false = some (.agg [.int .i64 x1, .int .i64 y1]), (decide (x1 < (IntKind.i64.wrap (0 - n)))) = true, true = true, true = true, true = true]) TLoop_holds rfl 300 rfl [.b true, .v (.agg [.int .i64 x0, .int .i64 y0]), .b false, .b false, .b false, .b false, .b true, .v (.agg [.int .i64 x1, .int .i64 y1]), .b true, .b true, .b true, .b true] (by kernel_rfl) ⟨rfl, (by decide), rfl, c1, c2, c3, c4, rfl, (by decide), rfl, c5, rfl, rfl, rfl, trivial⟩
        · exact Runs.script (r := .bool false) (ps := [true = true, 0 ≤ (0 : Int) ∧ (0 : Int) < (3 : Nat), takeA [.int .i64 x0, .int .i64 y0, .int .i64 x1, .int .i64 y1, .int .i64 x2, .int .i64 y2] 0 2 false = some (.agg [.int .i64 x0, .int .i64 y0]), (decide (x0 < (IntKind.i64.wrap (0 - n)))) = false, (decide (x0 > n)) = false, (decide (y0 < (IntKind.i64.wrap (0 - n)))) = false, (decide (y0 > n)) = true]) TLoop_holds rfl 300 rfl [.b true, .v (.agg [.int .i64 x0, .int .i64 y0]), .b false, .b false, .b false, .b true] (by kernel_rfl) ⟨rfl, (by decide), rfl, c1, c2, c3, c4, trivial⟩
      · exact Runs.script (r := .bool false) (ps := [true = true, 0 ≤ (0 : Int) ∧ (0 : Int) < (3 : Nat), takeA [.int .i64 x0, .int .i64 y0, .int .i64 x1, .int .i64 y1, .int .i64 x2, .int .i64 y2] 0 2 false = some (.agg [.int .i64 x0, .int .i64 y0]), (decide (x0 < (IntKind.i64.wrap (0 - n)))) = false, (decide (x0 > n)) = false, (decide (y0 < (IntKind.i64.wrap (0 - n)))) = true, true = true]) TLoop_holds rfl 300 rfl [.b true, .v (.agg [.int .i64 x0, .int .i64 y0]), .b false, .b false, .b true, .b true] (by kernel_rfl) ⟨rfl, (by decide), rfl, c1, c2, c3, rfl, trivial⟩
    · exact Runs.script (r := .bool false) (ps := [true = true, 0 ≤ (0 : Int) ∧ (0 : Int) < (3 : Nat), takeA [.int .i64 x0, .int .i64 y0, .int .i64 x1, .int .i64 y1, .int .i64 x2, .int .i64 y2] 0 2 false = some (.agg [.int .i64 x0, .int .i64 y0]), (decide (x0 < (IntKind.i64.wrap (0 - n)))) = false, (decide (x0 > n)) = true, true = true, true = true]) TLoop_holds rfl 300 rfl [.b true, .v (.agg [.int .i64 x0, .int .i64 y0]), .b false, .b true, .b true, .b true] (by kernel_rfl) ⟨rfl, (by decide), rfl, c1, c2, rfl, rfl, trivial⟩
  · exact Runs.script (r := .bool false) (ps := [true = true, 0 ≤ (0 : Int) ∧ (0 : Int) < (3 : Nat), takeA [.int .i64 x0, .int .i64 y0, .int .i64 x1, .int .i64 y1, .int .i64 x2, .int .i64 y2] 0 2 false = some (.agg [.int .i64 x0, .int .i64 y0]), (decide (x0 < (IntKind.i64.wrap (0 - n)))) = true, true = true, true = true, true = true]) TLoop_holds rfl 300 rfl [.b true, .v (.agg [.int .i64 x0, .int .i64 y0]), .b true, .b true, .b true, .b true] (by kernel_rfl) ⟨rfl, (by decide), rfl, c1, rfl, rfl, rfl, trivial⟩
theorem e42_3 (n x0 y0 x1 y1 x2 y2 : Int) (h0 : 0 ≤ n) (h1 : n ≤ 4611686018427387904) : Try.sh42_3 n x0 y0 x1 y1 x2 y2 = .bool (inB n x0 y0 && inB n x1 y1 && inB n x2 y2) := by
  unfold Try.sh42_3 inB
  simp only [Int.zero_sub, w64 (n := -n) (by omega) (by omega)]
  repeat' split
  all_goals (simp_all <;> omega)

def g42 : List AV → Option (AV × List Prop)
  | [.int .i64 n, .sl 1 [.int .i64 x0, .int .i64 y0]] => some (.bool (inB n x0 y0), [0 ≤ n, n ≤ 4611686018427387904])
  | [.int .i64 n, .sl 3 [.int .i64 x0, .int .i64 y0, .int .i64 x1, .int .i64 y1, .int .i64 x2, .int .i64 y2]] => some (.bool (inB n x0 y0 && inB n x1 y1 && inB n x2 y2), [0 ≤ n, n ≤ 4611686018427387904])
  | _ => none
def TA1 : Table := (42, g42) :: TLoop
theorem TA1_holds : THolds Try.ir TA1 := THolds.cons TLoop_holds (by
  intro args r ps h hp
  unfold g42 at h
  split at h
  · cases h; exact e42_1 _ _ _  hp.1 hp.2.1 ▸ Try.run42_1 _ _ _ 
  · cases h; exact e42_3 _ _ _ _ _ _ _  hp.1 hp.2.1 ▸ Try.run42_3 _ _ _ _ _ _ _ 
  · cases h)

def Try.sh76_1 (n x0 y0 : Int) : AV :=
  match decide (x0 < (IntKind.i64.wrap (0 - n))) with
  | true => (.bool false)
  | false => (match decide (x0 > n) with
  | true => (.bool false)
  | false => (match decide (y0 < (IntKind.i64.wrap (0 - n))) with
  | true => (.bool false)
  | false => (match decide (y0 > n) with
  | true => (.bool false)
  | false => (.bool true))))
theorem Try.run76_1 (n x0 y0 : Int)  : Runs Try.ir 76 [.int .i64 n, .sl 1 [.int .i64 x0, .int .i64 y0]] (Try.sh76_1 n x0 y0) := by
  unfold Try.sh76_1
  cases c1 : (decide (x0 < (IntKind.i64.wrap (0 - n))))
  · cases c2 : (decide (x0 > n))
    · cases c3 : (decide (y0 < (IntKind.i64.wrap (0 - n))))
      · cases c4 : (decide (y0 > n))
        · exact Runs.script (r := .bool true) (ps := [true = true, 0 ≤ (0 : Int) ∧ (0 : Int) < (1 : Nat), takeA [.int .i64 x0, .int .i64 y0] 0 2 false = some (.agg [.int .i64 x0, .int .i64 y0]), (decide (x0 < (IntKind.i64.wrap (0 - n)))) = false, (decide (x0 > n)) = false, (decide (y0 < (IntKind.i64.wrap (0 - n)))) = false, (decide (y0 > n)) = false, false = false]) TA1_holds rfl 300 rfl [.b true, .v (.agg [.int .i64 x0, .int .i64 y0]), .b false, .b false, .b false, .b false, .b false] (by kernel_rfl) ⟨rfl, (by decide), rfl, c1, c2, c3, c4, rfl, trivial⟩
        · exact Runs.script (r := .bool false) (ps := [true = true, 0 ≤ (0 : Int) ∧ (0 : Int) < (1 : Nat), takeA [.int .i64 x0, .int .i64 y0] 0 2 false = some (.agg [.int .i64 x0, .int .i64 y0]), (decide (x0 < (IntKind.i64.wrap (0 - n)))) = false, (decide (x0 > n)) = false, (decide (y0 < (IntKind.i64.wrap (0 - n)))) = false, (decide (y0 > n)) = true]) TA1_holds rfl 300 rfl [.b true, .v (.agg [.int .i64 x0, .int .i64 y0]), .b false, .b false, .b false, .b true] (by kernel_rfl) ⟨rfl, (by decide), rfl, c1, c2, c3, c4, trivial⟩
      · exact Runs.script (r := .bool false) (ps := [true = true, 0 ≤ (0 : Int) ∧ (0 : Int) < (1 : Nat), takeA [.int .i64 x0, .int .i64 y0] 0 2 false = some (.agg [.int .i64 x0, .int .i64 y0]), (decide (x0 < (IntKind.i64.wrap (0 - n)))) = false, (decide (x0 > n)) = false, (decide (y0 < (IntKind.i64.wrap (0 - n)))) = true, true = true]) TA1_holds rfl 300 rfl [.b true, .v (.agg [.int .i64 x0, .int .i64 y0]), .b false, .b false, .b true, .b true] (by kernel_rfl) ⟨rfl, (by decide), rfl, c1, c2, c3, rfl, trivial⟩
    · exact Runs.script (r := .bool false) (ps := [true = true, 0 ≤ (0 : Int) ∧ (0 : Int) < (1 : Nat), takeA [.int .i64 x0, .int .i64 y0] 0 2 false = some (.agg [.int .i64 x0, .int .i64 y0]), (decide (x0 < (IntKind.i64.wrap (0 - n)))) = false, (decide (x0 > n)) = true, true = true, true = true]) TA1_holds rfl 300 rfl [.b true, .v (.agg [.int .i64 x0, .int .i64 y0]), .b false, .b true, .b true, .b true] (by kernel_rfl) ⟨rfl, (by decide), rfl, c1, c2, rfl, rfl, trivial⟩
  · exact Runs.script (r := .bool false) (ps := [true = true, 0 ≤ (0 : Int) ∧ (0 : Int) < (1 : Nat), takeA [.int .i64 x0, .int .i64 y0] 0 2 false = some (.agg [.int .i64 x0, .int .i64 y0]), (decide (x0 < (IntKind.i64.wrap (0 - n)))) = true, true = true, true = true, true = true]) TA1_holds rfl 300 rfl [.b true, .v (.agg [.int .i64 x0, .int .i64 y0]), .b true, .b true, .b true, .b true] (by kernel_rfl) ⟨rfl, (by decide), rfl, c1, rfl, rfl, rfl, trivial⟩
theorem e76_1 (n x0 y0 : Int) (h0 : 0 ≤ n) (h1 : n ≤ 4611686018427387904) : Try.sh76_1 n x0 y0 = .bool (inB n x0 y0) := by
  unfold Try.sh76_1 inB
  simp only [Int.zero_sub, w64 (n := -n) (by omega) (by omega)]
  repeat' split
  all_goals (simp_all <;> omega)

def g76 : List AV → Option (AV × List Prop)
  | [.int .i64 n, .sl 1 [.int .i64 x0, .int .i64 y0]] => some (.bool (inB n x0 y0), [0 ≤ n, n ≤ 4611686018427387904])
  | _ => none
def TA2 : Table := (76, g76) :: TA1
theorem TA2_holds : THolds Try.ir TA2 := THolds.cons TA1_holds (by
  intro args r ps h hp
  unfold g76 at h
  split at h
  · cases h; exact e76_1 _ _ _  hp.1 hp.2.1 ▸ Try.run76_1 _ _ _ 
  · cases h)

theorem dotI_le (a b c d : Int) : dotI a b c d ≤ 9223372036854775807 := by
  unfold dotI
  split
  · rename_i h
    simp only [Bool.and_eq_true] at h
    have g1 := smallB_yes h.1
    have g2 := smallB_yes h.2
    have m1 := small_mul (x := a) (y := c) (by omega) (by omega) (by omega) (by omega)
    have m2 := small_mul (x := b) (y := d) (by omega) (by omega) (by omega) (by omega)
    omega
  · omega

def inDisc (px py cx cy reach : Int) : Bool :=
  match inB 2097152 px py with
  | true => (match inB 1048576 cx cy with
  | true => (match decide (reach < 1) with
  | true => (false)
  | false => (match decide (reach > 524288) with
  | true => (false)
  | false => ((decide ((dotI ((subV px py cx cy).1) ((subV px py cx cy).2) ((subV px py cx cy).1) ((subV px py cx cy).2)) < (IntKind.i64.wrap (reach * reach)))))))
  | false => (false))
  | false => (false)
theorem Try.run48 (px py cx cy reach : Int)  : Runs Try.ir 48 [.agg [.int .i64 px, .int .i64 py], .agg [.int .i64 cx, .int .i64 cy], .int .i64 reach] (.bool (inDisc px py cx cy reach)) := by
  unfold inDisc
  cases c1 : (inB 2097152 px py)
  · exact Runs.script (r := .bool false) (ps := [0 ≤ (2097152 : Int), (2097152 : Int) ≤ 4611686018427387904, (!(inB 2097152 px py)) = true, true = true, true = true, true = true]) TA2_holds rfl 300 rfl [.b true, .b true, .b true, .b true] (by kernel_rfl) ⟨(by decide), (by decide), (by rw [c1]; rfl), rfl, rfl, rfl, trivial⟩
  · cases c2 : (inB 1048576 cx cy)
    · exact Runs.script (r := .bool false) (ps := [0 ≤ (2097152 : Int), (2097152 : Int) ≤ 4611686018427387904, (!(inB 2097152 px py)) = false, 0 ≤ (1048576 : Int), (1048576 : Int) ≤ 4611686018427387904, (!(inB 1048576 cx cy)) = true, true = true, true = true]) TA2_holds rfl 300 rfl [.b false, .b true, .b true, .b true] (by kernel_rfl) ⟨(by decide), (by decide), (by rw [c1]; rfl), (by decide), (by decide), (by rw [c2]; rfl), rfl, rfl, trivial⟩
    · cases c3 : (decide (reach < 1))
      · cases c4 : (decide (reach > 524288))
        · exact Runs.script (r := .bool (decide ((dotI ((subV px py cx cy).1) ((subV px py cx cy).2) ((subV px py cx cy).1) ((subV px py cx cy).2)) < (IntKind.i64.wrap (reach * reach))))) (ps := [0 ≤ (2097152 : Int), (2097152 : Int) ≤ 4611686018427387904, (!(inB 2097152 px py)) = false, 0 ≤ (1048576 : Int), (1048576 : Int) ≤ 4611686018427387904, (!(inB 1048576 cx cy)) = false, (decide (reach < 1)) = false, (decide (reach > 524288)) = false]) TA2_holds rfl 300 rfl [.b false, .b false, .b false, .b false] (by kernel_rfl) ⟨(by decide), (by decide), (by rw [c1]; rfl), (by decide), (by decide), (by rw [c2]; rfl), c3, c4, trivial⟩
        · exact Runs.script (r := .bool false) (ps := [0 ≤ (2097152 : Int), (2097152 : Int) ≤ 4611686018427387904, (!(inB 2097152 px py)) = false, 0 ≤ (1048576 : Int), (1048576 : Int) ≤ 4611686018427387904, (!(inB 1048576 cx cy)) = false, (decide (reach < 1)) = false, (decide (reach > 524288)) = true]) TA2_holds rfl 300 rfl [.b false, .b false, .b false, .b true] (by kernel_rfl) ⟨(by decide), (by decide), (by rw [c1]; rfl), (by decide), (by decide), (by rw [c2]; rfl), c3, c4, trivial⟩
      · exact Runs.script (r := .bool false) (ps := [0 ≤ (2097152 : Int), (2097152 : Int) ≤ 4611686018427387904, (!(inB 2097152 px py)) = false, 0 ≤ (1048576 : Int), (1048576 : Int) ≤ 4611686018427387904, (!(inB 1048576 cx cy)) = false, (decide (reach < 1)) = true, true = true]) TA2_holds rfl 300 rfl [.b false, .b false, .b true, .b true] (by kernel_rfl) ⟨(by decide), (by decide), (by rw [c1]; rfl), (by decide), (by decide), (by rw [c2]; rfl), c3, rfl, trivial⟩

def g48 : List AV → Option (AV × List Prop)
  | [.agg [.int .i64 px, .int .i64 py], .agg [.int .i64 cx, .int .i64 cy], .int .i64 reach] => some (.bool (inDisc px py cx cy reach), [])
  | _ => none
def TA3 : Table := (48, g48) :: TA2
theorem TA3_holds : THolds Try.ir TA3 := THolds.cons TA2_holds (by
  intro args r ps h hp
  unfold g48 at h
  split at h
  · cases h; exact Try.run48 _ _ _ _ _ 
  · cases h)

def discN (px py cx cy : Int) : Int × Int :=
  match inB 1048576 cx cy with
  | true => (((halveV ((subV px py ((scaleV cx cy 256).1) ((scaleV cx cy 256).2)).1) ((subV px py ((scaleV cx cy 256).1) ((scaleV cx cy 256).2)).2)).1, (halveV ((subV px py ((scaleV cx cy 256).1) ((scaleV cx cy 256).2)).1) ((subV px py ((scaleV cx cy 256).1) ((scaleV cx cy 256).2)).2)).2))
  | false => ((0, 0))
theorem Try.run46 (px py cx cy : Int)  : Runs Try.ir 46 [.agg [.int .i64 px, .int .i64 py], .agg [.int .i64 cx, .int .i64 cy]] (.agg [.int .i64 ((discN px py cx cy).1), .int .i64 ((discN px py cx cy).2)]) := by
  unfold discN
  cases c1 : (inB 1048576 cx cy)
  · exact Runs.script (r := .agg [.int .i64 0, .int .i64 0]) (ps := [0 ≤ (1048576 : Int), (1048576 : Int) ≤ 4611686018427387904, (!(inB 1048576 cx cy)) = true]) TA3_holds rfl 300 rfl [.b true] (by kernel_rfl) ⟨(by decide), (by decide), (by rw [c1]; rfl), trivial⟩
  · exact Runs.script (r := .agg [.int .i64 ((halveV ((subV px py ((scaleV cx cy 256).1) ((scaleV cx cy 256).2)).1) ((subV px py ((scaleV cx cy 256).1) ((scaleV cx cy 256).2)).2)).1), .int .i64 ((halveV ((subV px py ((scaleV cx cy 256).1) ((scaleV cx cy 256).2)).1) ((subV px py ((scaleV cx cy 256).1) ((scaleV cx cy 256).2)).2)).2)]) (ps := [0 ≤ (1048576 : Int), (1048576 : Int) ≤ 4611686018427387904, (!(inB 1048576 cx cy)) = false]) TA3_holds rfl 300 rfl [.b false] (by kernel_rfl) ⟨(by decide), (by decide), (by rw [c1]; rfl), trivial⟩

def g46 : List AV → Option (AV × List Prop)
  | [.agg [.int .i64 px, .int .i64 py], .agg [.int .i64 cx, .int .i64 cy]] => some (.agg [.int .i64 ((discN px py cx cy).1), .int .i64 ((discN px py cx cy).2)], [])
  | _ => none
def TA4 : Table := (46, g46) :: TA3
theorem TA4_holds : THolds Try.ir TA4 := THolds.cons TA3_holds (by
  intro args r ps h hp
  unfold g46 at h
  split at h
  · cases h; exact Try.run46 _ _ _ _ 
  · cases h)

def radius (cx cy sx sy ex ey : Int) : Int × Bool :=
  match inB 1048576 cx cy && inB 1048576 sx sy && inB 1048576 ex ey with
  | true => (match (IntKind.i64.wrap ((rootI (dotI ((subV sx sy cx cy).1) ((subV sx sy cx cy).2) ((subV sx sy cx cy).1) ((subV sx sy cx cy).2))) * (rootI (dotI ((subV sx sy cx cy).1) ((subV sx sy cx cy).2) ((subV sx sy cx cy).1) ((subV sx sy cx cy).2))))) != (dotI ((subV sx sy cx cy).1) ((subV sx sy cx cy).2) ((subV sx sy cx cy).1) ((subV sx sy cx cy).2)) with
  | true => ((0, false))
  | false => (match (dotI ((subV ex ey cx cy).1) ((subV ex ey cx cy).2) ((subV ex ey cx cy).1) ((subV ex ey cx cy).2)) != (dotI ((subV sx sy cx cy).1) ((subV sx sy cx cy).2) ((subV sx sy cx cy).1) ((subV sx sy cx cy).2)) with
  | true => ((0, false))
  | false => (match decide ((rootI (dotI ((subV sx sy cx cy).1) ((subV sx sy cx cy).2) ((subV sx sy cx cy).1) ((subV sx sy cx cy).2))) < 1) with
  | true => ((0, false))
  | false => (match decide ((rootI (dotI ((subV sx sy cx cy).1) ((subV sx sy cx cy).2) ((subV sx sy cx cy).1) ((subV sx sy cx cy).2))) > 262144) with
  | true => ((0, false))
  | false => (match decide ((crossI ((subV sx sy cx cy).1) ((subV sx sy cx cy).2) ((subV ex ey cx cy).1) ((subV ex ey cx cy).2)) ≤ 0) with
  | true => ((0, false))
  | false => (((rootI (dotI ((subV sx sy cx cy).1) ((subV sx sy cx cy).2) ((subV sx sy cx cy).1) ((subV sx sy cx cy).2))), true)))))))
  | false => ((0, false))
theorem Try.run14 (nm : ByteArray) (lv cx cy sx sy ex ey rs gr mi sw : Int)  : Runs Try.ir 14 [.agg [.str nm, .int .i64 lv, .int .i64 cx, .int .i64 cy, .int .i64 sx, .int .i64 sy, .int .i64 ex, .int .i64 ey, .int .i64 rs, .int .i64 gr, .int .i64 mi, .int .i64 sw]] (.tup [.int .i64 ((radius cx cy sx sy ex ey).1), .bool ((radius cx cy sx sy ex ey).2)]) := by
  unfold radius
  cases c1 : (inB 1048576 cx cy && inB 1048576 sx sy && inB 1048576 ex ey)
  · exact Runs.script (r := .tup [.int .i64 0, .bool false]) (ps := [0 ≤ (1048576 : Int), (1048576 : Int) ≤ 4611686018427387904, (!(inB 1048576 cx cy && inB 1048576 sx sy && inB 1048576 ex ey)) = true]) TA4_holds rfl 300 rfl [.b true] (by kernel_rfl) ⟨(by decide), (by decide), (by rw [c1]; rfl), trivial⟩
  · cases c2 : ((IntKind.i64.wrap ((rootI (dotI ((subV sx sy cx cy).1) ((subV sx sy cx cy).2) ((subV sx sy cx cy).1) ((subV sx sy cx cy).2))) * (rootI (dotI ((subV sx sy cx cy).1) ((subV sx sy cx cy).2) ((subV sx sy cx cy).1) ((subV sx sy cx cy).2))))) != (dotI ((subV sx sy cx cy).1) ((subV sx sy cx cy).2) ((subV sx sy cx cy).1) ((subV sx sy cx cy).2)))
    · cases c3 : ((dotI ((subV ex ey cx cy).1) ((subV ex ey cx cy).2) ((subV ex ey cx cy).1) ((subV ex ey cx cy).2)) != (dotI ((subV sx sy cx cy).1) ((subV sx sy cx cy).2) ((subV sx sy cx cy).1) ((subV sx sy cx cy).2)))
      · cases c4 : (decide ((rootI (dotI ((subV sx sy cx cy).1) ((subV sx sy cx cy).2) ((subV sx sy cx cy).1) ((subV sx sy cx cy).2))) < 1))
        · cases c5 : (decide ((rootI (dotI ((subV sx sy cx cy).1) ((subV sx sy cx cy).2) ((subV sx sy cx cy).1) ((subV sx sy cx cy).2))) > 262144))
          · cases c6 : (decide ((crossI ((subV sx sy cx cy).1) ((subV sx sy cx cy).2) ((subV ex ey cx cy).1) ((subV ex ey cx cy).2)) ≤ 0))
            · exact Runs.script (r := .tup [.int .i64 (rootI (dotI ((subV sx sy cx cy).1) ((subV sx sy cx cy).2) ((subV sx sy cx cy).1) ((subV sx sy cx cy).2))), .bool true]) (ps := [0 ≤ (1048576 : Int), (1048576 : Int) ≤ 4611686018427387904, (!(inB 1048576 cx cy && inB 1048576 sx sy && inB 1048576 ex ey)) = false, (dotI ((subV sx sy cx cy).1) ((subV sx sy cx cy).2) ((subV sx sy cx cy).1) ((subV sx sy cx cy).2)) ≤ 9223372036854775807, ((IntKind.i64.wrap ((rootI (dotI ((subV sx sy cx cy).1) ((subV sx sy cx cy).2) ((subV sx sy cx cy).1) ((subV sx sy cx cy).2))) * (rootI (dotI ((subV sx sy cx cy).1) ((subV sx sy cx cy).2) ((subV sx sy cx cy).1) ((subV sx sy cx cy).2))))) != (dotI ((subV sx sy cx cy).1) ((subV sx sy cx cy).2) ((subV sx sy cx cy).1) ((subV sx sy cx cy).2))) = false, ((dotI ((subV ex ey cx cy).1) ((subV ex ey cx cy).2) ((subV ex ey cx cy).1) ((subV ex ey cx cy).2)) != (dotI ((subV sx sy cx cy).1) ((subV sx sy cx cy).2) ((subV sx sy cx cy).1) ((subV sx sy cx cy).2))) = false, (decide ((rootI (dotI ((subV sx sy cx cy).1) ((subV sx sy cx cy).2) ((subV sx sy cx cy).1) ((subV sx sy cx cy).2))) < 1)) = false, (decide ((rootI (dotI ((subV sx sy cx cy).1) ((subV sx sy cx cy).2) ((subV sx sy cx cy).1) ((subV sx sy cx cy).2))) > 262144)) = false, (decide ((crossI ((subV sx sy cx cy).1) ((subV sx sy cx cy).2) ((subV ex ey cx cy).1) ((subV ex ey cx cy).2)) ≤ 0)) = false]) TA4_holds rfl 300 rfl [.b false, .b false, .b false, .b false, .b false, .b false] (by kernel_rfl) ⟨(by decide), (by decide), (by rw [c1]; rfl), (dotI_le _ _ _ _), c2, c3, c4, c5, c6, trivial⟩
            · exact Runs.script (r := .tup [.int .i64 0, .bool false]) (ps := [0 ≤ (1048576 : Int), (1048576 : Int) ≤ 4611686018427387904, (!(inB 1048576 cx cy && inB 1048576 sx sy && inB 1048576 ex ey)) = false, (dotI ((subV sx sy cx cy).1) ((subV sx sy cx cy).2) ((subV sx sy cx cy).1) ((subV sx sy cx cy).2)) ≤ 9223372036854775807, ((IntKind.i64.wrap ((rootI (dotI ((subV sx sy cx cy).1) ((subV sx sy cx cy).2) ((subV sx sy cx cy).1) ((subV sx sy cx cy).2))) * (rootI (dotI ((subV sx sy cx cy).1) ((subV sx sy cx cy).2) ((subV sx sy cx cy).1) ((subV sx sy cx cy).2))))) != (dotI ((subV sx sy cx cy).1) ((subV sx sy cx cy).2) ((subV sx sy cx cy).1) ((subV sx sy cx cy).2))) = false, ((dotI ((subV ex ey cx cy).1) ((subV ex ey cx cy).2) ((subV ex ey cx cy).1) ((subV ex ey cx cy).2)) != (dotI ((subV sx sy cx cy).1) ((subV sx sy cx cy).2) ((subV sx sy cx cy).1) ((subV sx sy cx cy).2))) = false, (decide ((rootI (dotI ((subV sx sy cx cy).1) ((subV sx sy cx cy).2) ((subV sx sy cx cy).1) ((subV sx sy cx cy).2))) < 1)) = false, (decide ((rootI (dotI ((subV sx sy cx cy).1) ((subV sx sy cx cy).2) ((subV sx sy cx cy).1) ((subV sx sy cx cy).2))) > 262144)) = false, (decide ((crossI ((subV sx sy cx cy).1) ((subV sx sy cx cy).2) ((subV ex ey cx cy).1) ((subV ex ey cx cy).2)) ≤ 0)) = true]) TA4_holds rfl 300 rfl [.b false, .b false, .b false, .b false, .b false, .b true] (by kernel_rfl) ⟨(by decide), (by decide), (by rw [c1]; rfl), (dotI_le _ _ _ _), c2, c3, c4, c5, c6, trivial⟩
          · exact Runs.script (r := .tup [.int .i64 0, .bool false]) (ps := [0 ≤ (1048576 : Int), (1048576 : Int) ≤ 4611686018427387904, (!(inB 1048576 cx cy && inB 1048576 sx sy && inB 1048576 ex ey)) = false, (dotI ((subV sx sy cx cy).1) ((subV sx sy cx cy).2) ((subV sx sy cx cy).1) ((subV sx sy cx cy).2)) ≤ 9223372036854775807, ((IntKind.i64.wrap ((rootI (dotI ((subV sx sy cx cy).1) ((subV sx sy cx cy).2) ((subV sx sy cx cy).1) ((subV sx sy cx cy).2))) * (rootI (dotI ((subV sx sy cx cy).1) ((subV sx sy cx cy).2) ((subV sx sy cx cy).1) ((subV sx sy cx cy).2))))) != (dotI ((subV sx sy cx cy).1) ((subV sx sy cx cy).2) ((subV sx sy cx cy).1) ((subV sx sy cx cy).2))) = false, ((dotI ((subV ex ey cx cy).1) ((subV ex ey cx cy).2) ((subV ex ey cx cy).1) ((subV ex ey cx cy).2)) != (dotI ((subV sx sy cx cy).1) ((subV sx sy cx cy).2) ((subV sx sy cx cy).1) ((subV sx sy cx cy).2))) = false, (decide ((rootI (dotI ((subV sx sy cx cy).1) ((subV sx sy cx cy).2) ((subV sx sy cx cy).1) ((subV sx sy cx cy).2))) < 1)) = false, (decide ((rootI (dotI ((subV sx sy cx cy).1) ((subV sx sy cx cy).2) ((subV sx sy cx cy).1) ((subV sx sy cx cy).2))) > 262144)) = true, true = true]) TA4_holds rfl 300 rfl [.b false, .b false, .b false, .b false, .b true, .b true] (by kernel_rfl) ⟨(by decide), (by decide), (by rw [c1]; rfl), (dotI_le _ _ _ _), c2, c3, c4, c5, rfl, trivial⟩
        · exact Runs.script (r := .tup [.int .i64 0, .bool false]) (ps := [0 ≤ (1048576 : Int), (1048576 : Int) ≤ 4611686018427387904, (!(inB 1048576 cx cy && inB 1048576 sx sy && inB 1048576 ex ey)) = false, (dotI ((subV sx sy cx cy).1) ((subV sx sy cx cy).2) ((subV sx sy cx cy).1) ((subV sx sy cx cy).2)) ≤ 9223372036854775807, ((IntKind.i64.wrap ((rootI (dotI ((subV sx sy cx cy).1) ((subV sx sy cx cy).2) ((subV sx sy cx cy).1) ((subV sx sy cx cy).2))) * (rootI (dotI ((subV sx sy cx cy).1) ((subV sx sy cx cy).2) ((subV sx sy cx cy).1) ((subV sx sy cx cy).2))))) != (dotI ((subV sx sy cx cy).1) ((subV sx sy cx cy).2) ((subV sx sy cx cy).1) ((subV sx sy cx cy).2))) = false, ((dotI ((subV ex ey cx cy).1) ((subV ex ey cx cy).2) ((subV ex ey cx cy).1) ((subV ex ey cx cy).2)) != (dotI ((subV sx sy cx cy).1) ((subV sx sy cx cy).2) ((subV sx sy cx cy).1) ((subV sx sy cx cy).2))) = false, (decide ((rootI (dotI ((subV sx sy cx cy).1) ((subV sx sy cx cy).2) ((subV sx sy cx cy).1) ((subV sx sy cx cy).2))) < 1)) = true, true = true, true = true]) TA4_holds rfl 300 rfl [.b false, .b false, .b false, .b true, .b true, .b true] (by kernel_rfl) ⟨(by decide), (by decide), (by rw [c1]; rfl), (dotI_le _ _ _ _), c2, c3, c4, rfl, rfl, trivial⟩
      · exact Runs.script (r := .tup [.int .i64 0, .bool false]) (ps := [0 ≤ (1048576 : Int), (1048576 : Int) ≤ 4611686018427387904, (!(inB 1048576 cx cy && inB 1048576 sx sy && inB 1048576 ex ey)) = false, (dotI ((subV sx sy cx cy).1) ((subV sx sy cx cy).2) ((subV sx sy cx cy).1) ((subV sx sy cx cy).2)) ≤ 9223372036854775807, ((IntKind.i64.wrap ((rootI (dotI ((subV sx sy cx cy).1) ((subV sx sy cx cy).2) ((subV sx sy cx cy).1) ((subV sx sy cx cy).2))) * (rootI (dotI ((subV sx sy cx cy).1) ((subV sx sy cx cy).2) ((subV sx sy cx cy).1) ((subV sx sy cx cy).2))))) != (dotI ((subV sx sy cx cy).1) ((subV sx sy cx cy).2) ((subV sx sy cx cy).1) ((subV sx sy cx cy).2))) = false, ((dotI ((subV ex ey cx cy).1) ((subV ex ey cx cy).2) ((subV ex ey cx cy).1) ((subV ex ey cx cy).2)) != (dotI ((subV sx sy cx cy).1) ((subV sx sy cx cy).2) ((subV sx sy cx cy).1) ((subV sx sy cx cy).2))) = true, true = true, true = true, true = true]) TA4_holds rfl 300 rfl [.b false, .b false, .b true, .b true, .b true, .b true] (by kernel_rfl) ⟨(by decide), (by decide), (by rw [c1]; rfl), (dotI_le _ _ _ _), c2, c3, rfl, rfl, rfl, trivial⟩
    · exact Runs.script (r := .tup [.int .i64 0, .bool false]) (ps := [0 ≤ (1048576 : Int), (1048576 : Int) ≤ 4611686018427387904, (!(inB 1048576 cx cy && inB 1048576 sx sy && inB 1048576 ex ey)) = false, (dotI ((subV sx sy cx cy).1) ((subV sx sy cx cy).2) ((subV sx sy cx cy).1) ((subV sx sy cx cy).2)) ≤ 9223372036854775807, ((IntKind.i64.wrap ((rootI (dotI ((subV sx sy cx cy).1) ((subV sx sy cx cy).2) ((subV sx sy cx cy).1) ((subV sx sy cx cy).2))) * (rootI (dotI ((subV sx sy cx cy).1) ((subV sx sy cx cy).2) ((subV sx sy cx cy).1) ((subV sx sy cx cy).2))))) != (dotI ((subV sx sy cx cy).1) ((subV sx sy cx cy).2) ((subV sx sy cx cy).1) ((subV sx sy cx cy).2))) = true, true = true, true = true, true = true, true = true]) TA4_holds rfl 300 rfl [.b false, .b true, .b true, .b true, .b true, .b true] (by kernel_rfl) ⟨(by decide), (by decide), (by rw [c1]; rfl), (dotI_le _ _ _ _), c2, rfl, rfl, rfl, rfl, trivial⟩

def g14 : List AV → Option (AV × List Prop)
  | [.agg [.str _, .int .i64 _, .int .i64 cx, .int .i64 cy, .int .i64 sx, .int .i64 sy, .int .i64 ex, .int .i64 ey, .int .i64 _, .int .i64 _, .int .i64 _, .int .i64 _]] => some (.tup [.int .i64 ((radius cx cy sx sy ex ey).1), .bool ((radius cx cy sx sy ex ey).2)], [])
  | _ => none
def TA5 : Table := (14, g14) :: TA4
theorem TA5_holds : THolds Try.ir TA5 := THolds.cons TA4_holds (by
  intro args r ps h hp
  unfold g14 at h
  split at h
  · cases h; exact Try.run14 _ _ _ _ _ _ _ _ _ _ _ _ 
  · cases h)

def sector (cx cy sx sy ex ey qx qy : Int) : Bool :=
  match (radius cx cy sx sy ex ey).2 with
  | true => (match inB 536870912 qx qy with
  | true => (match decide ((crossI ((subV sx sy cx cy).1) ((subV sx sy cx cy).2) ((subV qx qy ((scaleV cx cy 256).1) ((scaleV cx cy 256).2)).1) ((subV qx qy ((scaleV cx cy 256).1) ((scaleV cx cy 256).2)).2)) > 0) with
  | true => ((decide ((crossI ((subV qx qy ((scaleV cx cy 256).1) ((scaleV cx cy 256).2)).1) ((subV qx qy ((scaleV cx cy 256).1) ((scaleV cx cy 256).2)).2) ((subV ex ey cx cy).1) ((subV ex ey cx cy).2)) > 0)))
  | false => (false))
  | false => (false))
  | false => (false)
theorem Try.run15 (nm : ByteArray) (lv cx cy sx sy ex ey rs gr mi sw qx qy : Int)  : Runs Try.ir 15 [.agg [.str nm, .int .i64 lv, .int .i64 cx, .int .i64 cy, .int .i64 sx, .int .i64 sy, .int .i64 ex, .int .i64 ey, .int .i64 rs, .int .i64 gr, .int .i64 mi, .int .i64 sw], .agg [.int .i64 qx, .int .i64 qy]] (.bool (sector cx cy sx sy ex ey qx qy)) := by
  unfold sector
  cases c1 : ((radius cx cy sx sy ex ey).2)
  · exact Runs.script (r := .bool false) (ps := [(!((radius cx cy sx sy ex ey).2)) = true, true = true]) TA5_holds rfl 300 rfl [.b true, .b true] (by kernel_rfl) ⟨(by rw [c1]; rfl), rfl, trivial⟩
  · cases c2 : (inB 536870912 qx qy)
    · exact Runs.script (r := .bool false) (ps := [(!((radius cx cy sx sy ex ey).2)) = false, 0 ≤ (536870912 : Int), (536870912 : Int) ≤ 4611686018427387904, (!(inB 536870912 qx qy)) = true]) TA5_holds rfl 300 rfl [.b false, .b true] (by kernel_rfl) ⟨(by rw [c1]; rfl), (by decide), (by decide), (by rw [c2]; rfl), trivial⟩
    · cases c3 : (decide ((crossI ((subV sx sy cx cy).1) ((subV sx sy cx cy).2) ((subV qx qy ((scaleV cx cy 256).1) ((scaleV cx cy 256).2)).1) ((subV qx qy ((scaleV cx cy 256).1) ((scaleV cx cy 256).2)).2)) > 0))
      · exact Runs.script (r := .bool false) (ps := [(!((radius cx cy sx sy ex ey).2)) = false, 0 ≤ (536870912 : Int), (536870912 : Int) ≤ 4611686018427387904, (!(inB 536870912 qx qy)) = false, (decide ((crossI ((subV sx sy cx cy).1) ((subV sx sy cx cy).2) ((subV qx qy ((scaleV cx cy 256).1) ((scaleV cx cy 256).2)).1) ((subV qx qy ((scaleV cx cy 256).1) ((scaleV cx cy 256).2)).2)) > 0)) = false]) TA5_holds rfl 300 rfl [.b false, .b false, .b false] (by kernel_rfl) ⟨(by rw [c1]; rfl), (by decide), (by decide), (by rw [c2]; rfl), c3, trivial⟩
      · exact Runs.script (r := .bool (decide ((crossI ((subV qx qy ((scaleV cx cy 256).1) ((scaleV cx cy 256).2)).1) ((subV qx qy ((scaleV cx cy 256).1) ((scaleV cx cy 256).2)).2) ((subV ex ey cx cy).1) ((subV ex ey cx cy).2)) > 0))) (ps := [(!((radius cx cy sx sy ex ey).2)) = false, 0 ≤ (536870912 : Int), (536870912 : Int) ≤ 4611686018427387904, (!(inB 536870912 qx qy)) = false, (decide ((crossI ((subV sx sy cx cy).1) ((subV sx sy cx cy).2) ((subV qx qy ((scaleV cx cy 256).1) ((scaleV cx cy 256).2)).1) ((subV qx qy ((scaleV cx cy 256).1) ((scaleV cx cy 256).2)).2)) > 0)) = true]) TA5_holds rfl 300 rfl [.b false, .b false, .b true] (by kernel_rfl) ⟨(by rw [c1]; rfl), (by decide), (by decide), (by rw [c2]; rfl), c3, trivial⟩

def g15 : List AV → Option (AV × List Prop)
  | [.agg [.str _, .int .i64 _, .int .i64 cx, .int .i64 cy, .int .i64 sx, .int .i64 sy, .int .i64 ex, .int .i64 ey, .int .i64 _, .int .i64 _, .int .i64 _, .int .i64 _], .agg [.int .i64 qx, .int .i64 qy]] => some (.bool (sector cx cy sx sy ex ey qx qy), [])
  | _ => none
def TA6 : Table := (15, g15) :: TA5
theorem TA6_holds : THolds Try.ir TA6 := THolds.cons TA5_holds (by
  intro args r ps h hp
  unfold g15 at h
  split at h
  · cases h; exact Try.run15 _ _ _ _ _ _ _ _ _ _ _ _ _ _ 
  · cases h)

def inside (px py cx cy sx sy ex ey reach : Int) : Bool :=
  match (radius cx cy sx sy ex ey).2 with
  | true => (match decide (reach < 1) with
  | true => (false)
  | false => (match decide (reach ≥ ((radius cx cy sx sy ex ey).1)) with
  | true => (false)
  | false => (match inB 2097152 px py with
  | true => (match inDisc px py sx sy reach with
  | true => (true)
  | false => (match inDisc px py ex ey reach with
  | true => (true)
  | false => (match decide ((crossI ((subV sx sy cx cy).1) ((subV sx sy cx cy).2) ((subV px py cx cy).1) ((subV px py cx cy).2)) ≤ 0) with
  | true => (false)
  | false => (match decide ((crossI ((subV px py cx cy).1) ((subV px py cx cy).2) ((subV ex ey cx cy).1) ((subV ex ey cx cy).2)) ≤ 0) with
  | true => (false)
  | false => (match decide ((dotI ((subV px py cx cy).1) ((subV px py cx cy).2) ((subV px py cx cy).1) ((subV px py cx cy).2)) < (IntKind.i64.wrap ((IntKind.i64.wrap (((radius cx cy sx sy ex ey).1) + reach)) * (IntKind.i64.wrap (((radius cx cy sx sy ex ey).1) + reach))))) with
  | true => ((decide ((dotI ((subV px py cx cy).1) ((subV px py cx cy).2) ((subV px py cx cy).1) ((subV px py cx cy).2)) > (IntKind.i64.wrap ((IntKind.i64.wrap (((radius cx cy sx sy ex ey).1) - reach)) * (IntKind.i64.wrap (((radius cx cy sx sy ex ey).1) - reach)))))))
  | false => (false))))))
  | false => (false))))
  | false => (false)
theorem Try.run18 (px py : Int) (nm : ByteArray) (lv cx cy sx sy ex ey rs gr mi sw reach : Int)  : Runs Try.ir 18 [.agg [.int .i64 px, .int .i64 py], .agg [.str nm, .int .i64 lv, .int .i64 cx, .int .i64 cy, .int .i64 sx, .int .i64 sy, .int .i64 ex, .int .i64 ey, .int .i64 rs, .int .i64 gr, .int .i64 mi, .int .i64 sw], .int .i64 reach] (.bool (inside px py cx cy sx sy ex ey reach)) := by
  unfold inside
  cases c1 : ((radius cx cy sx sy ex ey).2)
  · exact Runs.script (r := .bool false) (ps := [(!((radius cx cy sx sy ex ey).2)) = true, true = true, true = true, true = true]) TA6_holds rfl 300 rfl [.b true, .b true, .b true, .b true] (by kernel_rfl) ⟨(by rw [c1]; rfl), rfl, rfl, rfl, trivial⟩
  · cases c2 : (decide (reach < 1))
    · cases c3 : (decide (reach ≥ ((radius cx cy sx sy ex ey).1)))
      · cases c4 : (inB 2097152 px py)
        · exact Runs.script (r := .bool false) (ps := [(!((radius cx cy sx sy ex ey).2)) = false, (decide (reach < 1)) = false, (decide (reach ≥ ((radius cx cy sx sy ex ey).1))) = false, 0 ≤ (2097152 : Int), (2097152 : Int) ≤ 4611686018427387904, (!(inB 2097152 px py)) = true]) TA6_holds rfl 300 rfl [.b false, .b false, .b false, .b true] (by kernel_rfl) ⟨(by rw [c1]; rfl), c2, c3, (by decide), (by decide), (by rw [c4]; rfl), trivial⟩
        · cases c5 : (inDisc px py sx sy reach)
          · cases c6 : (inDisc px py ex ey reach)
            · cases c7 : (decide ((crossI ((subV sx sy cx cy).1) ((subV sx sy cx cy).2) ((subV px py cx cy).1) ((subV px py cx cy).2)) ≤ 0))
              · cases c8 : (decide ((crossI ((subV px py cx cy).1) ((subV px py cx cy).2) ((subV ex ey cx cy).1) ((subV ex ey cx cy).2)) ≤ 0))
                · cases c9 : (decide ((dotI ((subV px py cx cy).1) ((subV px py cx cy).2) ((subV px py cx cy).1) ((subV px py cx cy).2)) < (IntKind.i64.wrap ((IntKind.i64.wrap (((radius cx cy sx sy ex ey).1) + reach)) * (IntKind.i64.wrap (((radius cx cy sx sy ex ey).1) + reach))))))
                  · exact Runs.script (r := .bool false) (ps := [(!((radius cx cy sx sy ex ey).2)) = false, (decide (reach < 1)) = false, (decide (reach ≥ ((radius cx cy sx sy ex ey).1))) = false, 0 ≤ (2097152 : Int), (2097152 : Int) ≤ 4611686018427387904, (!(inB 2097152 px py)) = false, (inDisc px py sx sy reach) = false, (inDisc px py ex ey reach) = false, (decide ((crossI ((subV sx sy cx cy).1) ((subV sx sy cx cy).2) ((subV px py cx cy).1) ((subV px py cx cy).2)) ≤ 0)) = false, (decide ((crossI ((subV px py cx cy).1) ((subV px py cx cy).2) ((subV ex ey cx cy).1) ((subV ex ey cx cy).2)) ≤ 0)) = false, (decide ((dotI ((subV px py cx cy).1) ((subV px py cx cy).2) ((subV px py cx cy).1) ((subV px py cx cy).2)) < (IntKind.i64.wrap ((IntKind.i64.wrap (((radius cx cy sx sy ex ey).1) + reach)) * (IntKind.i64.wrap (((radius cx cy sx sy ex ey).1) + reach)))))) = false]) TA6_holds rfl 300 rfl [.b false, .b false, .b false, .b false, .b false, .b false, .b false, .b false, .b false] (by kernel_rfl) ⟨(by rw [c1]; rfl), c2, c3, (by decide), (by decide), (by rw [c4]; rfl), c5, c6, c7, c8, c9, trivial⟩
                  · exact Runs.script (r := .bool (decide ((dotI ((subV px py cx cy).1) ((subV px py cx cy).2) ((subV px py cx cy).1) ((subV px py cx cy).2)) > (IntKind.i64.wrap ((IntKind.i64.wrap (((radius cx cy sx sy ex ey).1) - reach)) * (IntKind.i64.wrap (((radius cx cy sx sy ex ey).1) - reach))))))) (ps := [(!((radius cx cy sx sy ex ey).2)) = false, (decide (reach < 1)) = false, (decide (reach ≥ ((radius cx cy sx sy ex ey).1))) = false, 0 ≤ (2097152 : Int), (2097152 : Int) ≤ 4611686018427387904, (!(inB 2097152 px py)) = false, (inDisc px py sx sy reach) = false, (inDisc px py ex ey reach) = false, (decide ((crossI ((subV sx sy cx cy).1) ((subV sx sy cx cy).2) ((subV px py cx cy).1) ((subV px py cx cy).2)) ≤ 0)) = false, (decide ((crossI ((subV px py cx cy).1) ((subV px py cx cy).2) ((subV ex ey cx cy).1) ((subV ex ey cx cy).2)) ≤ 0)) = false, (decide ((dotI ((subV px py cx cy).1) ((subV px py cx cy).2) ((subV px py cx cy).1) ((subV px py cx cy).2)) < (IntKind.i64.wrap ((IntKind.i64.wrap (((radius cx cy sx sy ex ey).1) + reach)) * (IntKind.i64.wrap (((radius cx cy sx sy ex ey).1) + reach)))))) = true]) TA6_holds rfl 300 rfl [.b false, .b false, .b false, .b false, .b false, .b false, .b false, .b false, .b true] (by kernel_rfl) ⟨(by rw [c1]; rfl), c2, c3, (by decide), (by decide), (by rw [c4]; rfl), c5, c6, c7, c8, c9, trivial⟩
                · exact Runs.script (r := .bool false) (ps := [(!((radius cx cy sx sy ex ey).2)) = false, (decide (reach < 1)) = false, (decide (reach ≥ ((radius cx cy sx sy ex ey).1))) = false, 0 ≤ (2097152 : Int), (2097152 : Int) ≤ 4611686018427387904, (!(inB 2097152 px py)) = false, (inDisc px py sx sy reach) = false, (inDisc px py ex ey reach) = false, (decide ((crossI ((subV sx sy cx cy).1) ((subV sx sy cx cy).2) ((subV px py cx cy).1) ((subV px py cx cy).2)) ≤ 0)) = false, (decide ((crossI ((subV px py cx cy).1) ((subV px py cx cy).2) ((subV ex ey cx cy).1) ((subV ex ey cx cy).2)) ≤ 0)) = true]) TA6_holds rfl 300 rfl [.b false, .b false, .b false, .b false, .b false, .b false, .b false, .b true] (by kernel_rfl) ⟨(by rw [c1]; rfl), c2, c3, (by decide), (by decide), (by rw [c4]; rfl), c5, c6, c7, c8, trivial⟩
              · exact Runs.script (r := .bool false) (ps := [(!((radius cx cy sx sy ex ey).2)) = false, (decide (reach < 1)) = false, (decide (reach ≥ ((radius cx cy sx sy ex ey).1))) = false, 0 ≤ (2097152 : Int), (2097152 : Int) ≤ 4611686018427387904, (!(inB 2097152 px py)) = false, (inDisc px py sx sy reach) = false, (inDisc px py ex ey reach) = false, (decide ((crossI ((subV sx sy cx cy).1) ((subV sx sy cx cy).2) ((subV px py cx cy).1) ((subV px py cx cy).2)) ≤ 0)) = true, true = true]) TA6_holds rfl 300 rfl [.b false, .b false, .b false, .b false, .b false, .b false, .b true, .b true] (by kernel_rfl) ⟨(by rw [c1]; rfl), c2, c3, (by decide), (by decide), (by rw [c4]; rfl), c5, c6, c7, rfl, trivial⟩
            · exact Runs.script (r := .bool true) (ps := [(!((radius cx cy sx sy ex ey).2)) = false, (decide (reach < 1)) = false, (decide (reach ≥ ((radius cx cy sx sy ex ey).1))) = false, 0 ≤ (2097152 : Int), (2097152 : Int) ≤ 4611686018427387904, (!(inB 2097152 px py)) = false, (inDisc px py sx sy reach) = false, (inDisc px py ex ey reach) = true]) TA6_holds rfl 300 rfl [.b false, .b false, .b false, .b false, .b false, .b true] (by kernel_rfl) ⟨(by rw [c1]; rfl), c2, c3, (by decide), (by decide), (by rw [c4]; rfl), c5, c6, trivial⟩
          · exact Runs.script (r := .bool true) (ps := [(!((radius cx cy sx sy ex ey).2)) = false, (decide (reach < 1)) = false, (decide (reach ≥ ((radius cx cy sx sy ex ey).1))) = false, 0 ≤ (2097152 : Int), (2097152 : Int) ≤ 4611686018427387904, (!(inB 2097152 px py)) = false, (inDisc px py sx sy reach) = true, true = true]) TA6_holds rfl 300 rfl [.b false, .b false, .b false, .b false, .b true, .b true] (by kernel_rfl) ⟨(by rw [c1]; rfl), c2, c3, (by decide), (by decide), (by rw [c4]; rfl), c5, rfl, trivial⟩
      · exact Runs.script (r := .bool false) (ps := [(!((radius cx cy sx sy ex ey).2)) = false, (decide (reach < 1)) = false, (decide (reach ≥ ((radius cx cy sx sy ex ey).1))) = true, true = true]) TA6_holds rfl 300 rfl [.b false, .b false, .b true, .b true] (by kernel_rfl) ⟨(by rw [c1]; rfl), c2, c3, rfl, trivial⟩
    · exact Runs.script (r := .bool false) (ps := [(!((radius cx cy sx sy ex ey).2)) = false, (decide (reach < 1)) = true, true = true, true = true]) TA6_holds rfl 300 rfl [.b false, .b true, .b true, .b true] (by kernel_rfl) ⟨(by rw [c1]; rfl), c2, rfl, rfl, trivial⟩

def g18 : List AV → Option (AV × List Prop)
  | [.agg [.int .i64 px, .int .i64 py], .agg [.str _, .int .i64 _, .int .i64 cx, .int .i64 cy, .int .i64 sx, .int .i64 sy, .int .i64 ex, .int .i64 ey, .int .i64 _, .int .i64 _, .int .i64 _, .int .i64 _], .int .i64 reach] => some (.bool (inside px py cx cy sx sy ex ey reach), [])
  | _ => none
def TA7 : Table := (18, g18) :: TA6
theorem TA7_holds : THolds Try.ir TA7 := THolds.cons TA6_holds (by
  intro args r ps h hp
  unfold g18 at h
  split at h
  · cases h; exact Try.run18 _ _ _ _ _ _ _ _ _ _ _ _ _ _ _ 
  · cases h)

def normal (qx qy cx cy sx sy ex ey : Int) : Int × Int :=
  match (radius cx cy sx sy ex ey).2 with
  | true => (match sector cx cy sx sy ex ey qx qy with
  | true => (match decide ((dotI ((subV qx qy ((scaleV cx cy 256).1) ((scaleV cx cy 256).2)).1) ((subV qx qy ((scaleV cx cy 256).1) ((scaleV cx cy 256).2)).2) ((subV qx qy ((scaleV cx cy 256).1) ((scaleV cx cy 256).2)).1) ((subV qx qy ((scaleV cx cy 256).1) ((scaleV cx cy 256).2)).2)) > (IntKind.i64.wrap ((IntKind.i64.wrap ((IntKind.i64.wrap (256 * ((radius cx cy sx sy ex ey).1))) * 256)) * ((radius cx cy sx sy ex ey).1)))) with
  | true => (((halveV ((subV qx qy ((scaleV cx cy 256).1) ((scaleV cx cy 256).2)).1) ((subV qx qy ((scaleV cx cy 256).1) ((scaleV cx cy 256).2)).2)).1, (halveV ((subV qx qy ((scaleV cx cy 256).1) ((scaleV cx cy 256).2)).1) ((subV qx qy ((scaleV cx cy 256).1) ((scaleV cx cy 256).2)).2)).2))
  | false => (match decide ((dotI ((subV qx qy ((scaleV cx cy 256).1) ((scaleV cx cy 256).2)).1) ((subV qx qy ((scaleV cx cy 256).1) ((scaleV cx cy 256).2)).2) ((subV qx qy ((scaleV cx cy 256).1) ((scaleV cx cy 256).2)).1) ((subV qx qy ((scaleV cx cy 256).1) ((scaleV cx cy 256).2)).2)) < (IntKind.i64.wrap ((IntKind.i64.wrap ((IntKind.i64.wrap (256 * ((radius cx cy sx sy ex ey).1))) * 256)) * ((radius cx cy sx sy ex ey).1)))) with
  | true => (((halveV ((scaleV ((subV qx qy ((scaleV cx cy 256).1) ((scaleV cx cy 256).2)).1) ((subV qx qy ((scaleV cx cy 256).1) ((scaleV cx cy 256).2)).2) (-1)).1) ((scaleV ((subV qx qy ((scaleV cx cy 256).1) ((scaleV cx cy 256).2)).1) ((subV qx qy ((scaleV cx cy 256).1) ((scaleV cx cy 256).2)).2) (-1)).2)).1, (halveV ((scaleV ((subV qx qy ((scaleV cx cy 256).1) ((scaleV cx cy 256).2)).1) ((subV qx qy ((scaleV cx cy 256).1) ((scaleV cx cy 256).2)).2) (-1)).1) ((scaleV ((subV qx qy ((scaleV cx cy 256).1) ((scaleV cx cy 256).2)).1) ((subV qx qy ((scaleV cx cy 256).1) ((scaleV cx cy 256).2)).2) (-1)).2)).2))
  | false => ((0, 0))))
  | false => (match decide ((dotI ((subV qx qy ((scaleV sx sy 256).1) ((scaleV sx sy 256).2)).1) ((subV qx qy ((scaleV sx sy 256).1) ((scaleV sx sy 256).2)).2) ((subV qx qy ((scaleV sx sy 256).1) ((scaleV sx sy 256).2)).1) ((subV qx qy ((scaleV sx sy 256).1) ((scaleV sx sy 256).2)).2)) < (dotI ((subV qx qy ((scaleV ex ey 256).1) ((scaleV ex ey 256).2)).1) ((subV qx qy ((scaleV ex ey 256).1) ((scaleV ex ey 256).2)).2) ((subV qx qy ((scaleV ex ey 256).1) ((scaleV ex ey 256).2)).1) ((subV qx qy ((scaleV ex ey 256).1) ((scaleV ex ey 256).2)).2))) with
  | true => (((discN qx qy sx sy).1, (discN qx qy sx sy).2))
  | false => (match decide ((dotI ((subV qx qy ((scaleV sx sy 256).1) ((scaleV sx sy 256).2)).1) ((subV qx qy ((scaleV sx sy 256).1) ((scaleV sx sy 256).2)).2) ((subV qx qy ((scaleV sx sy 256).1) ((scaleV sx sy 256).2)).1) ((subV qx qy ((scaleV sx sy 256).1) ((scaleV sx sy 256).2)).2)) > (dotI ((subV qx qy ((scaleV ex ey 256).1) ((scaleV ex ey 256).2)).1) ((subV qx qy ((scaleV ex ey 256).1) ((scaleV ex ey 256).2)).2) ((subV qx qy ((scaleV ex ey 256).1) ((scaleV ex ey 256).2)).1) ((subV qx qy ((scaleV ex ey 256).1) ((scaleV ex ey 256).2)).2))) with
  | true => (((discN qx qy ex ey).1, (discN qx qy ex ey).2))
  | false => ((0, 0)))))
  | false => ((0, 0))
theorem Try.run17 (qx qy : Int) (nm : ByteArray) (lv cx cy sx sy ex ey rs gr mi sw : Int)  : Runs Try.ir 17 [.agg [.int .i64 qx, .int .i64 qy], .agg [.str nm, .int .i64 lv, .int .i64 cx, .int .i64 cy, .int .i64 sx, .int .i64 sy, .int .i64 ex, .int .i64 ey, .int .i64 rs, .int .i64 gr, .int .i64 mi, .int .i64 sw]] (.agg [.int .i64 ((normal qx qy cx cy sx sy ex ey).1), .int .i64 ((normal qx qy cx cy sx sy ex ey).2)]) := by
  unfold normal
  cases c1 : ((radius cx cy sx sy ex ey).2)
  · exact Runs.script (r := .agg [.int .i64 0, .int .i64 0]) (ps := [(!((radius cx cy sx sy ex ey).2)) = true]) TA7_holds rfl 300 rfl [.b true] (by kernel_rfl) ⟨(by rw [c1]; rfl), trivial⟩
  · cases c2 : (sector cx cy sx sy ex ey qx qy)
    · cases c3 : (decide ((dotI ((subV qx qy ((scaleV sx sy 256).1) ((scaleV sx sy 256).2)).1) ((subV qx qy ((scaleV sx sy 256).1) ((scaleV sx sy 256).2)).2) ((subV qx qy ((scaleV sx sy 256).1) ((scaleV sx sy 256).2)).1) ((subV qx qy ((scaleV sx sy 256).1) ((scaleV sx sy 256).2)).2)) < (dotI ((subV qx qy ((scaleV ex ey 256).1) ((scaleV ex ey 256).2)).1) ((subV qx qy ((scaleV ex ey 256).1) ((scaleV ex ey 256).2)).2) ((subV qx qy ((scaleV ex ey 256).1) ((scaleV ex ey 256).2)).1) ((subV qx qy ((scaleV ex ey 256).1) ((scaleV ex ey 256).2)).2))))
      · cases c4 : (decide ((dotI ((subV qx qy ((scaleV sx sy 256).1) ((scaleV sx sy 256).2)).1) ((subV qx qy ((scaleV sx sy 256).1) ((scaleV sx sy 256).2)).2) ((subV qx qy ((scaleV sx sy 256).1) ((scaleV sx sy 256).2)).1) ((subV qx qy ((scaleV sx sy 256).1) ((scaleV sx sy 256).2)).2)) > (dotI ((subV qx qy ((scaleV ex ey 256).1) ((scaleV ex ey 256).2)).1) ((subV qx qy ((scaleV ex ey 256).1) ((scaleV ex ey 256).2)).2) ((subV qx qy ((scaleV ex ey 256).1) ((scaleV ex ey 256).2)).1) ((subV qx qy ((scaleV ex ey 256).1) ((scaleV ex ey 256).2)).2))))
        · exact Runs.script (r := .agg [.int .i64 0, .int .i64 0]) (ps := [(!((radius cx cy sx sy ex ey).2)) = false, (!(sector cx cy sx sy ex ey qx qy)) = true, (decide ((dotI ((subV qx qy ((scaleV sx sy 256).1) ((scaleV sx sy 256).2)).1) ((subV qx qy ((scaleV sx sy 256).1) ((scaleV sx sy 256).2)).2) ((subV qx qy ((scaleV sx sy 256).1) ((scaleV sx sy 256).2)).1) ((subV qx qy ((scaleV sx sy 256).1) ((scaleV sx sy 256).2)).2)) < (dotI ((subV qx qy ((scaleV ex ey 256).1) ((scaleV ex ey 256).2)).1) ((subV qx qy ((scaleV ex ey 256).1) ((scaleV ex ey 256).2)).2) ((subV qx qy ((scaleV ex ey 256).1) ((scaleV ex ey 256).2)).1) ((subV qx qy ((scaleV ex ey 256).1) ((scaleV ex ey 256).2)).2)))) = false, (decide ((dotI ((subV qx qy ((scaleV sx sy 256).1) ((scaleV sx sy 256).2)).1) ((subV qx qy ((scaleV sx sy 256).1) ((scaleV sx sy 256).2)).2) ((subV qx qy ((scaleV sx sy 256).1) ((scaleV sx sy 256).2)).1) ((subV qx qy ((scaleV sx sy 256).1) ((scaleV sx sy 256).2)).2)) > (dotI ((subV qx qy ((scaleV ex ey 256).1) ((scaleV ex ey 256).2)).1) ((subV qx qy ((scaleV ex ey 256).1) ((scaleV ex ey 256).2)).2) ((subV qx qy ((scaleV ex ey 256).1) ((scaleV ex ey 256).2)).1) ((subV qx qy ((scaleV ex ey 256).1) ((scaleV ex ey 256).2)).2)))) = false]) TA7_holds rfl 300 rfl [.b false, .b true, .b false, .b false] (by kernel_rfl) ⟨(by rw [c1]; rfl), (by rw [c2]; rfl), c3, c4, trivial⟩
        · exact Runs.script (r := .agg [.int .i64 ((discN qx qy ex ey).1), .int .i64 ((discN qx qy ex ey).2)]) (ps := [(!((radius cx cy sx sy ex ey).2)) = false, (!(sector cx cy sx sy ex ey qx qy)) = true, (decide ((dotI ((subV qx qy ((scaleV sx sy 256).1) ((scaleV sx sy 256).2)).1) ((subV qx qy ((scaleV sx sy 256).1) ((scaleV sx sy 256).2)).2) ((subV qx qy ((scaleV sx sy 256).1) ((scaleV sx sy 256).2)).1) ((subV qx qy ((scaleV sx sy 256).1) ((scaleV sx sy 256).2)).2)) < (dotI ((subV qx qy ((scaleV ex ey 256).1) ((scaleV ex ey 256).2)).1) ((subV qx qy ((scaleV ex ey 256).1) ((scaleV ex ey 256).2)).2) ((subV qx qy ((scaleV ex ey 256).1) ((scaleV ex ey 256).2)).1) ((subV qx qy ((scaleV ex ey 256).1) ((scaleV ex ey 256).2)).2)))) = false, (decide ((dotI ((subV qx qy ((scaleV sx sy 256).1) ((scaleV sx sy 256).2)).1) ((subV qx qy ((scaleV sx sy 256).1) ((scaleV sx sy 256).2)).2) ((subV qx qy ((scaleV sx sy 256).1) ((scaleV sx sy 256).2)).1) ((subV qx qy ((scaleV sx sy 256).1) ((scaleV sx sy 256).2)).2)) > (dotI ((subV qx qy ((scaleV ex ey 256).1) ((scaleV ex ey 256).2)).1) ((subV qx qy ((scaleV ex ey 256).1) ((scaleV ex ey 256).2)).2) ((subV qx qy ((scaleV ex ey 256).1) ((scaleV ex ey 256).2)).1) ((subV qx qy ((scaleV ex ey 256).1) ((scaleV ex ey 256).2)).2)))) = true]) TA7_holds rfl 300 rfl [.b false, .b true, .b false, .b true] (by kernel_rfl) ⟨(by rw [c1]; rfl), (by rw [c2]; rfl), c3, c4, trivial⟩
      · exact Runs.script (r := .agg [.int .i64 ((discN qx qy sx sy).1), .int .i64 ((discN qx qy sx sy).2)]) (ps := [(!((radius cx cy sx sy ex ey).2)) = false, (!(sector cx cy sx sy ex ey qx qy)) = true, (decide ((dotI ((subV qx qy ((scaleV sx sy 256).1) ((scaleV sx sy 256).2)).1) ((subV qx qy ((scaleV sx sy 256).1) ((scaleV sx sy 256).2)).2) ((subV qx qy ((scaleV sx sy 256).1) ((scaleV sx sy 256).2)).1) ((subV qx qy ((scaleV sx sy 256).1) ((scaleV sx sy 256).2)).2)) < (dotI ((subV qx qy ((scaleV ex ey 256).1) ((scaleV ex ey 256).2)).1) ((subV qx qy ((scaleV ex ey 256).1) ((scaleV ex ey 256).2)).2) ((subV qx qy ((scaleV ex ey 256).1) ((scaleV ex ey 256).2)).1) ((subV qx qy ((scaleV ex ey 256).1) ((scaleV ex ey 256).2)).2)))) = true]) TA7_holds rfl 300 rfl [.b false, .b true, .b true] (by kernel_rfl) ⟨(by rw [c1]; rfl), (by rw [c2]; rfl), c3, trivial⟩
    · cases c3 : (decide ((dotI ((subV qx qy ((scaleV cx cy 256).1) ((scaleV cx cy 256).2)).1) ((subV qx qy ((scaleV cx cy 256).1) ((scaleV cx cy 256).2)).2) ((subV qx qy ((scaleV cx cy 256).1) ((scaleV cx cy 256).2)).1) ((subV qx qy ((scaleV cx cy 256).1) ((scaleV cx cy 256).2)).2)) > (IntKind.i64.wrap ((IntKind.i64.wrap ((IntKind.i64.wrap (256 * ((radius cx cy sx sy ex ey).1))) * 256)) * ((radius cx cy sx sy ex ey).1)))))
      · cases c4 : (decide ((dotI ((subV qx qy ((scaleV cx cy 256).1) ((scaleV cx cy 256).2)).1) ((subV qx qy ((scaleV cx cy 256).1) ((scaleV cx cy 256).2)).2) ((subV qx qy ((scaleV cx cy 256).1) ((scaleV cx cy 256).2)).1) ((subV qx qy ((scaleV cx cy 256).1) ((scaleV cx cy 256).2)).2)) < (IntKind.i64.wrap ((IntKind.i64.wrap ((IntKind.i64.wrap (256 * ((radius cx cy sx sy ex ey).1))) * 256)) * ((radius cx cy sx sy ex ey).1)))))
        · exact Runs.script (r := .agg [.int .i64 0, .int .i64 0]) (ps := [(!((radius cx cy sx sy ex ey).2)) = false, (!(sector cx cy sx sy ex ey qx qy)) = false, (decide ((dotI ((subV qx qy ((scaleV cx cy 256).1) ((scaleV cx cy 256).2)).1) ((subV qx qy ((scaleV cx cy 256).1) ((scaleV cx cy 256).2)).2) ((subV qx qy ((scaleV cx cy 256).1) ((scaleV cx cy 256).2)).1) ((subV qx qy ((scaleV cx cy 256).1) ((scaleV cx cy 256).2)).2)) > (IntKind.i64.wrap ((IntKind.i64.wrap ((IntKind.i64.wrap (256 * ((radius cx cy sx sy ex ey).1))) * 256)) * ((radius cx cy sx sy ex ey).1))))) = false, (decide ((dotI ((subV qx qy ((scaleV cx cy 256).1) ((scaleV cx cy 256).2)).1) ((subV qx qy ((scaleV cx cy 256).1) ((scaleV cx cy 256).2)).2) ((subV qx qy ((scaleV cx cy 256).1) ((scaleV cx cy 256).2)).1) ((subV qx qy ((scaleV cx cy 256).1) ((scaleV cx cy 256).2)).2)) < (IntKind.i64.wrap ((IntKind.i64.wrap ((IntKind.i64.wrap (256 * ((radius cx cy sx sy ex ey).1))) * 256)) * ((radius cx cy sx sy ex ey).1))))) = false]) TA7_holds rfl 300 rfl [.b false, .b false, .b false, .b false] (by kernel_rfl) ⟨(by rw [c1]; rfl), (by rw [c2]; rfl), c3, c4, trivial⟩
        · exact Runs.script (r := .agg [.int .i64 ((halveV ((scaleV ((subV qx qy ((scaleV cx cy 256).1) ((scaleV cx cy 256).2)).1) ((subV qx qy ((scaleV cx cy 256).1) ((scaleV cx cy 256).2)).2) (-1)).1) ((scaleV ((subV qx qy ((scaleV cx cy 256).1) ((scaleV cx cy 256).2)).1) ((subV qx qy ((scaleV cx cy 256).1) ((scaleV cx cy 256).2)).2) (-1)).2)).1), .int .i64 ((halveV ((scaleV ((subV qx qy ((scaleV cx cy 256).1) ((scaleV cx cy 256).2)).1) ((subV qx qy ((scaleV cx cy 256).1) ((scaleV cx cy 256).2)).2) (-1)).1) ((scaleV ((subV qx qy ((scaleV cx cy 256).1) ((scaleV cx cy 256).2)).1) ((subV qx qy ((scaleV cx cy 256).1) ((scaleV cx cy 256).2)).2) (-1)).2)).2)]) (ps := [(!((radius cx cy sx sy ex ey).2)) = false, (!(sector cx cy sx sy ex ey qx qy)) = false, (decide ((dotI ((subV qx qy ((scaleV cx cy 256).1) ((scaleV cx cy 256).2)).1) ((subV qx qy ((scaleV cx cy 256).1) ((scaleV cx cy 256).2)).2) ((subV qx qy ((scaleV cx cy 256).1) ((scaleV cx cy 256).2)).1) ((subV qx qy ((scaleV cx cy 256).1) ((scaleV cx cy 256).2)).2)) > (IntKind.i64.wrap ((IntKind.i64.wrap ((IntKind.i64.wrap (256 * ((radius cx cy sx sy ex ey).1))) * 256)) * ((radius cx cy sx sy ex ey).1))))) = false, (decide ((dotI ((subV qx qy ((scaleV cx cy 256).1) ((scaleV cx cy 256).2)).1) ((subV qx qy ((scaleV cx cy 256).1) ((scaleV cx cy 256).2)).2) ((subV qx qy ((scaleV cx cy 256).1) ((scaleV cx cy 256).2)).1) ((subV qx qy ((scaleV cx cy 256).1) ((scaleV cx cy 256).2)).2)) < (IntKind.i64.wrap ((IntKind.i64.wrap ((IntKind.i64.wrap (256 * ((radius cx cy sx sy ex ey).1))) * 256)) * ((radius cx cy sx sy ex ey).1))))) = true]) TA7_holds rfl 300 rfl [.b false, .b false, .b false, .b true] (by kernel_rfl) ⟨(by rw [c1]; rfl), (by rw [c2]; rfl), c3, c4, trivial⟩
      · exact Runs.script (r := .agg [.int .i64 ((halveV ((subV qx qy ((scaleV cx cy 256).1) ((scaleV cx cy 256).2)).1) ((subV qx qy ((scaleV cx cy 256).1) ((scaleV cx cy 256).2)).2)).1), .int .i64 ((halveV ((subV qx qy ((scaleV cx cy 256).1) ((scaleV cx cy 256).2)).1) ((subV qx qy ((scaleV cx cy 256).1) ((scaleV cx cy 256).2)).2)).2)]) (ps := [(!((radius cx cy sx sy ex ey).2)) = false, (!(sector cx cy sx sy ex ey qx qy)) = false, (decide ((dotI ((subV qx qy ((scaleV cx cy 256).1) ((scaleV cx cy 256).2)).1) ((subV qx qy ((scaleV cx cy 256).1) ((scaleV cx cy 256).2)).2) ((subV qx qy ((scaleV cx cy 256).1) ((scaleV cx cy 256).2)).1) ((subV qx qy ((scaleV cx cy 256).1) ((scaleV cx cy 256).2)).2)) > (IntKind.i64.wrap ((IntKind.i64.wrap ((IntKind.i64.wrap (256 * ((radius cx cy sx sy ex ey).1))) * 256)) * ((radius cx cy sx sy ex ey).1))))) = true]) TA7_holds rfl 300 rfl [.b false, .b false, .b true] (by kernel_rfl) ⟨(by rw [c1]; rfl), (by rw [c2]; rfl), c3, trivial⟩

def g17 : List AV → Option (AV × List Prop)
  | [.agg [.int .i64 qx, .int .i64 qy], .agg [.str _, .int .i64 _, .int .i64 cx, .int .i64 cy, .int .i64 sx, .int .i64 sy, .int .i64 ex, .int .i64 ey, .int .i64 _, .int .i64 _, .int .i64 _, .int .i64 _]] => some (.agg [.int .i64 ((normal qx qy cx cy sx sy ex ey).1), .int .i64 ((normal qx qy cx cy sx sy ex ey).2)], [])
  | _ => none
def TA8 : Table := (17, g17) :: TA7
theorem TA8_holds : THolds Try.ir TA8 := THolds.cons TA7_holds (by
  intro args r ps h hp
  unfold g17 at h
  split at h
  · cases h; exact Try.run17 _ _ _ _ _ _ _ _ _ _ _ _ _ _ 
  · cases h)

def near12 (x y : Int) : Bool :=
  match decide (x ≥ (-1048576)) with
  | true => (match decide (x ≤ 1048576) with
  | true => (match decide (y ≥ (-1048576)) with
  | true => ((decide (y ≤ 1048576)))
  | false => (false))
  | false => (false))
  | false => (false)
theorem Try.run12 (x y : Int)  : Runs Try.ir 12 [.agg [.int .i64 x, .int .i64 y]] (.bool (near12 x y)) := by
  unfold near12
  cases c1 : (decide (x ≥ (-1048576)))
  · exact Runs.script (r := .bool false) (ps := [(decide (x ≥ (-1048576))) = false, false = false, false = false]) TA8_holds rfl 300 rfl [.b false, .b false, .b false] (by kernel_rfl) ⟨c1, rfl, rfl, trivial⟩
  · cases c2 : (decide (x ≤ 1048576))
    · exact Runs.script (r := .bool false) (ps := [(decide (x ≥ (-1048576))) = true, (decide (x ≤ 1048576)) = false, false = false]) TA8_holds rfl 300 rfl [.b true, .b false, .b false] (by kernel_rfl) ⟨c1, c2, rfl, trivial⟩
    · cases c3 : (decide (y ≥ (-1048576)))
      · exact Runs.script (r := .bool false) (ps := [(decide (x ≥ (-1048576))) = true, (decide (x ≤ 1048576)) = true, (decide (y ≥ (-1048576))) = false]) TA8_holds rfl 300 rfl [.b true, .b true, .b false] (by kernel_rfl) ⟨c1, c2, c3, trivial⟩
      · exact Runs.script (r := .bool (decide (y ≤ 1048576))) (ps := [(decide (x ≥ (-1048576))) = true, (decide (x ≤ 1048576)) = true, (decide (y ≥ (-1048576))) = true]) TA8_holds rfl 300 rfl [.b true, .b true, .b true] (by kernel_rfl) ⟨c1, c2, c3, trivial⟩

def g12 : List AV → Option (AV × List Prop)
  | [.agg [.int .i64 x, .int .i64 y]] => some (.bool (near12 x y), [])
  | _ => none
def TA9 : Table := (12, g12) :: TA8
theorem TA9_holds : THolds Try.ir TA9 := THolds.cons TA8_holds (by
  intro args r ps h hp
  unfold g12 at h
  split at h
  · cases h; exact Try.run12 _ _ 
  · cases h)

def flip12 (x y : Int) : Int × Int :=
  (IntKind.i64.wrap (0 - x), y)
theorem Try.run16 (x y : Int)  : Runs Try.ir 16 [.agg [.int .i64 x, .int .i64 y]] (.agg [.int .i64 ((flip12 x y).1), .int .i64 ((flip12 x y).2)]) := by
  unfold flip12
  exact Runs.script (r := .agg [.int .i64 (IntKind.i64.wrap (0 - x)), .int .i64 y]) (ps := []) TA9_holds rfl 300 rfl [] (by kernel_rfl) trivial

def g16 : List AV → Option (AV × List Prop)
  | [.agg [.int .i64 x, .int .i64 y]] => some (.agg [.int .i64 ((flip12 x y).1), .int .i64 ((flip12 x y).2)], [])
  | _ => none
def TA10 : Table := (16, g16) :: TA9
theorem TA10_holds : THolds Try.ir TA10 := THolds.cons TA9_holds (by
  intro args r ps h hp
  unfold g16 at h
  split at h
  · cases h; exact Try.run16 _ _ 
  · cases h)

def mirrored12 (nm : ByteArray) (lv cx cy sx sy ex ey rs gr mi sw : Int) : ByteArray × Int × Int × Int × Int × Int × Int × Int × Int × Int × Int × Int :=
  (nm, lv, (flip12 cx cy).1, (flip12 cx cy).2, (flip12 ex ey).1, (flip12 ex ey).2, (flip12 sx sy).1, (flip12 sx sy).2, rs, gr, mi, sw)
theorem Try.run13 (nm : ByteArray) (lv cx cy sx sy ex ey rs gr mi sw : Int)  : Runs Try.ir 13 [.agg [.str nm, .int .i64 lv, .int .i64 cx, .int .i64 cy, .int .i64 sx, .int .i64 sy, .int .i64 ex, .int .i64 ey, .int .i64 rs, .int .i64 gr, .int .i64 mi, .int .i64 sw]] (.agg [.str ((mirrored12 nm lv cx cy sx sy ex ey rs gr mi sw).1), .int .i64 ((mirrored12 nm lv cx cy sx sy ex ey rs gr mi sw).2.1), .int .i64 ((mirrored12 nm lv cx cy sx sy ex ey rs gr mi sw).2.2.1), .int .i64 ((mirrored12 nm lv cx cy sx sy ex ey rs gr mi sw).2.2.2.1), .int .i64 ((mirrored12 nm lv cx cy sx sy ex ey rs gr mi sw).2.2.2.2.1), .int .i64 ((mirrored12 nm lv cx cy sx sy ex ey rs gr mi sw).2.2.2.2.2.1), .int .i64 ((mirrored12 nm lv cx cy sx sy ex ey rs gr mi sw).2.2.2.2.2.2.1), .int .i64 ((mirrored12 nm lv cx cy sx sy ex ey rs gr mi sw).2.2.2.2.2.2.2.1), .int .i64 ((mirrored12 nm lv cx cy sx sy ex ey rs gr mi sw).2.2.2.2.2.2.2.2.1), .int .i64 ((mirrored12 nm lv cx cy sx sy ex ey rs gr mi sw).2.2.2.2.2.2.2.2.2.1), .int .i64 ((mirrored12 nm lv cx cy sx sy ex ey rs gr mi sw).2.2.2.2.2.2.2.2.2.2.1), .int .i64 ((mirrored12 nm lv cx cy sx sy ex ey rs gr mi sw).2.2.2.2.2.2.2.2.2.2.2)]) := by
  unfold mirrored12
  exact Runs.script (r := .agg [.str nm, .int .i64 lv, .int .i64 ((flip12 cx cy).1), .int .i64 ((flip12 cx cy).2), .int .i64 ((flip12 ex ey).1), .int .i64 ((flip12 ex ey).2), .int .i64 ((flip12 sx sy).1), .int .i64 ((flip12 sx sy).2), .int .i64 rs, .int .i64 gr, .int .i64 mi, .int .i64 sw]) (ps := []) TA10_holds rfl 300 rfl [] (by kernel_rfl) trivial

def g13 : List AV → Option (AV × List Prop)
  | [.agg [.str nm, .int .i64 lv, .int .i64 cx, .int .i64 cy, .int .i64 sx, .int .i64 sy, .int .i64 ex, .int .i64 ey, .int .i64 rs, .int .i64 gr, .int .i64 mi, .int .i64 sw]] => some (.agg [.str ((mirrored12 nm lv cx cy sx sy ex ey rs gr mi sw).1), .int .i64 ((mirrored12 nm lv cx cy sx sy ex ey rs gr mi sw).2.1), .int .i64 ((mirrored12 nm lv cx cy sx sy ex ey rs gr mi sw).2.2.1), .int .i64 ((mirrored12 nm lv cx cy sx sy ex ey rs gr mi sw).2.2.2.1), .int .i64 ((mirrored12 nm lv cx cy sx sy ex ey rs gr mi sw).2.2.2.2.1), .int .i64 ((mirrored12 nm lv cx cy sx sy ex ey rs gr mi sw).2.2.2.2.2.1), .int .i64 ((mirrored12 nm lv cx cy sx sy ex ey rs gr mi sw).2.2.2.2.2.2.1), .int .i64 ((mirrored12 nm lv cx cy sx sy ex ey rs gr mi sw).2.2.2.2.2.2.2.1), .int .i64 ((mirrored12 nm lv cx cy sx sy ex ey rs gr mi sw).2.2.2.2.2.2.2.2.1), .int .i64 ((mirrored12 nm lv cx cy sx sy ex ey rs gr mi sw).2.2.2.2.2.2.2.2.2.1), .int .i64 ((mirrored12 nm lv cx cy sx sy ex ey rs gr mi sw).2.2.2.2.2.2.2.2.2.2.1), .int .i64 ((mirrored12 nm lv cx cy sx sy ex ey rs gr mi sw).2.2.2.2.2.2.2.2.2.2.2)], [])
  | _ => none
def TA11 : Table := (13, g13) :: TA10
theorem TA11_holds : THolds Try.ir TA11 := THolds.cons TA10_holds (by
  intro args r ps h hp
  unfold g13 at h
  split at h
  · cases h; exact Try.run13 _ _ _ _ _ _ _ _ _ _ _ _ 
  · cases h)

theorem Try.run11 : Runs Try.ir 11 [] (.bool true) := ⟨400, by kernel_rfl⟩
def g11 : List AV → Option (AV × List Prop)
  | [] => some (.bool true, [])
  | _ => none
def TA12 : Table := (11, g11) :: TA11
theorem TA12_holds : THolds Try.ir TA12 := THolds.cons TA11_holds (by
  intro args r ps h hp
  unfold g11 at h
  split at h
  · cases h; exact Try.run11
  · cases h)

def TArc : Table := TA12
theorem TArc_holds : THolds Try.ir TArc := TA12_holds
end Go.Proofs.Ythakfjlnhldehaa
