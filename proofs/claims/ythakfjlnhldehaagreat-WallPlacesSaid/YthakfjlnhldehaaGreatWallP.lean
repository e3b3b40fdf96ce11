/- The statement WallPlaces, as a function of whole numbers. -/
import Derived.Test.YthakfjlnhldehaaGreatWRef
namespace Go.Proofs.YthakfjlnhldehaaGreat
open Go.Ai
set_option maxRecDepth 100000

def places1  : Bool :=
  true
theorem Tryz.run3_1 (n : Nat) (cs : List AV) (p1 p2 reach : Int) (h : (decide (((n : Nat) : Int) < 2)) = true) : Runs Tryz.ir 3 [.agg [.int .i64 p1, .int .i64 p2], .sl n cs, .int .i64 reach] (.bool (places1)) := by
  unfold places1
  exact Runs.script (r := .bool true) (ps := [false = false, (decide (((n : Nat) : Int) < 2)) = true]) TWRef_holds rfl 300 rfl [.b false, .b true] (by kernel_rfl) ⟨rfl, h, trivial⟩

def placesB (a1 a2 b1 b2 p1 p2 reach : Int) : Bool :=
  match (inDisc p1 p2 a1 a2 reach) == (inDiscR p1 p2 a1 a2 reach) with
  | true => (match (inCap p1 p2 a1 a2 b1 b2 reach) == (inCapR p1 p2 a1 a2 b1 b2 reach) with
  | true => (match ((discN p1 p2 a1 a2).1) == ((discNR p1 p2 a1 a2).1) && (((discN p1 p2 a1 a2).2) == ((discNR p1 p2 a1 a2).2) && true) with
  | true => ((((capN p1 p2 a1 a2 b1 b2).1) == ((capNR p1 p2 a1 a2 b1 b2).1) && (((capN p1 p2 a1 a2 b1 b2).2) == ((capNR p1 p2 a1 a2 b1 b2).2) && true)))
  | false => (false))
  | false => (false))
  | false => (false)
theorem Tryz.run3_2 (n : Nat) (cs : List AV) (a1 a2 b1 b2 p1 p2 reach : Int) (h : (decide (((n : Nat) : Int) < 2)) = false) : Runs Tryz.ir 3 [.agg [.int .i64 p1, .int .i64 p2], .sl n (.int .i64 a1 :: .int .i64 a2 :: .int .i64 b1 :: .int .i64 b2 :: cs), .int .i64 reach] (.bool (placesB a1 a2 b1 b2 p1 p2 reach)) := by
  unfold placesB
  cases c1 : ((inDisc p1 p2 a1 a2 reach) == (inDiscR p1 p2 a1 a2 reach))
  · exact Runs.script (r := .bool false) (ps := [false = false, (decide (((n : Nat) : Int) < 2)) = false, 0 ≤ (0 : Int) ∧ (0 : Int) < ((n : Nat) : Int), takeA (List.drop (Int.toNat 0 * 2) (.int .i64 a1 :: .int .i64 a2 :: .int .i64 b1 :: .int .i64 b2 :: cs)) 0 2 false = some (.agg [.int .i64 a1, .int .i64 a2]), 0 ≤ (1 : Int) ∧ (1 : Int) < ((n : Nat) : Int), takeA (List.drop (Int.toNat 1 * 2) (.int .i64 a1 :: .int .i64 a2 :: .int .i64 b1 :: .int .i64 b2 :: cs)) 0 2 false = some (.agg [.int .i64 b1, .int .i64 b2]), ((inDisc p1 p2 a1 a2 reach) == (inDiscR p1 p2 a1 a2 reach)) = false, false = false, false = false]) TWRef_holds rfl 300 rfl [.b false, .b false, .v (.agg [.int .i64 a1, .int .i64 a2]), .v (.agg [.int .i64 b1, .int .i64 b2]), .b false, .b false, .b false] (by kernel_rfl) ⟨rfl, h, (by simp at h; omega), rfl, (by simp at h; omega), rfl, c1, rfl, rfl, trivial⟩
  · cases c2 : ((inCap p1 p2 a1 a2 b1 b2 reach) == (inCapR p1 p2 a1 a2 b1 b2 reach))
    · exact Runs.script (r := .bool false) (ps := [false = false, (decide (((n : Nat) : Int) < 2)) = false, 0 ≤ (0 : Int) ∧ (0 : Int) < ((n : Nat) : Int), takeA (List.drop (Int.toNat 0 * 2) (.int .i64 a1 :: .int .i64 a2 :: .int .i64 b1 :: .int .i64 b2 :: cs)) 0 2 false = some (.agg [.int .i64 a1, .int .i64 a2]), 0 ≤ (1 : Int) ∧ (1 : Int) < ((n : Nat) : Int), takeA (List.drop (Int.toNat 1 * 2) (.int .i64 a1 :: .int .i64 a2 :: .int .i64 b1 :: .int .i64 b2 :: cs)) 0 2 false = some (.agg [.int .i64 b1, .int .i64 b2]), ((inDisc p1 p2 a1 a2 reach) == (inDiscR p1 p2 a1 a2 reach)) = true, ((inCap p1 p2 a1 a2 b1 b2 reach) == (inCapR p1 p2 a1 a2 b1 b2 reach)) = false, false = false]) TWRef_holds rfl 300 rfl [.b false, .b false, .v (.agg [.int .i64 a1, .int .i64 a2]), .v (.agg [.int .i64 b1, .int .i64 b2]), .b true, .b false, .b false] (by kernel_rfl) ⟨rfl, h, (by simp at h; omega), rfl, (by simp at h; omega), rfl, c1, c2, rfl, trivial⟩
    · cases c3 : (((discN p1 p2 a1 a2).1) == ((discNR p1 p2 a1 a2).1) && (((discN p1 p2 a1 a2).2) == ((discNR p1 p2 a1 a2).2) && true))
      · exact Runs.script (r := .bool false) (ps := [false = false, (decide (((n : Nat) : Int) < 2)) = false, 0 ≤ (0 : Int) ∧ (0 : Int) < ((n : Nat) : Int), takeA (List.drop (Int.toNat 0 * 2) (.int .i64 a1 :: .int .i64 a2 :: .int .i64 b1 :: .int .i64 b2 :: cs)) 0 2 false = some (.agg [.int .i64 a1, .int .i64 a2]), 0 ≤ (1 : Int) ∧ (1 : Int) < ((n : Nat) : Int), takeA (List.drop (Int.toNat 1 * 2) (.int .i64 a1 :: .int .i64 a2 :: .int .i64 b1 :: .int .i64 b2 :: cs)) 0 2 false = some (.agg [.int .i64 b1, .int .i64 b2]), ((inDisc p1 p2 a1 a2 reach) == (inDiscR p1 p2 a1 a2 reach)) = true, ((inCap p1 p2 a1 a2 b1 b2 reach) == (inCapR p1 p2 a1 a2 b1 b2 reach)) = true, (((discN p1 p2 a1 a2).1) == ((discNR p1 p2 a1 a2).1) && (((discN p1 p2 a1 a2).2) == ((discNR p1 p2 a1 a2).2) && true)) = false]) TWRef_holds rfl 300 rfl [.b false, .b false, .v (.agg [.int .i64 a1, .int .i64 a2]), .v (.agg [.int .i64 b1, .int .i64 b2]), .b true, .b true, .b false] (by kernel_rfl) ⟨rfl, h, (by simp at h; omega), rfl, (by simp at h; omega), rfl, c1, c2, c3, trivial⟩
      · exact Runs.script (r := .bool (((capN p1 p2 a1 a2 b1 b2).1) == ((capNR p1 p2 a1 a2 b1 b2).1) && (((capN p1 p2 a1 a2 b1 b2).2) == ((capNR p1 p2 a1 a2 b1 b2).2) && true))) (ps := [false = false, (decide (((n : Nat) : Int) < 2)) = false, 0 ≤ (0 : Int) ∧ (0 : Int) < ((n : Nat) : Int), takeA (List.drop (Int.toNat 0 * 2) (.int .i64 a1 :: .int .i64 a2 :: .int .i64 b1 :: .int .i64 b2 :: cs)) 0 2 false = some (.agg [.int .i64 a1, .int .i64 a2]), 0 ≤ (1 : Int) ∧ (1 : Int) < ((n : Nat) : Int), takeA (List.drop (Int.toNat 1 * 2) (.int .i64 a1 :: .int .i64 a2 :: .int .i64 b1 :: .int .i64 b2 :: cs)) 0 2 false = some (.agg [.int .i64 b1, .int .i64 b2]), ((inDisc p1 p2 a1 a2 reach) == (inDiscR p1 p2 a1 a2 reach)) = true, ((inCap p1 p2 a1 a2 b1 b2 reach) == (inCapR p1 p2 a1 a2 b1 b2 reach)) = true, (((discN p1 p2 a1 a2).1) == ((discNR p1 p2 a1 a2).1) && (((discN p1 p2 a1 a2).2) == ((discNR p1 p2 a1 a2).2) && true)) = true]) TWRef_holds rfl 300 rfl [.b false, .b false, .v (.agg [.int .i64 a1, .int .i64 a2]), .v (.agg [.int .i64 b1, .int .i64 b2]), .b true, .b true, .b true] (by kernel_rfl) ⟨rfl, h, (by simp at h; omega), rfl, (by simp at h; omega), rfl, c1, c2, c3, trivial⟩

end Go.Proofs.YthakfjlnhldehaaGreat
