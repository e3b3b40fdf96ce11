/- The motion of a ball and the disc of a point, as polynomials. -/
import Derived.Test.YthakfjlnhldehaaPolA
import Derived.Test.YthakfjlnhldehaaAlgP
import Derived.Test.YthakfjlnhldehaaArcTools
namespace Go.Proofs.Ythakfjlnhldehaa
open Go.Ai
set_option maxRecDepth 100000

def within10 (x y m : Int) : Bool :=
  match decide (x ≥ (IntKind.i64.wrap (0 - m))) with
  | true => (match decide (x ≤ m) with
  | true => (match decide (y ≥ (IntKind.i64.wrap (0 - m))) with
  | true => ((decide (y ≤ m)))
  | false => (false))
  | false => (false))
  | false => (false)
theorem Try.run80 (x y m : Int)  : Runs Try.ir 80 [.agg [.int .i64 x, .int .i64 y], .int .i64 m] (.bool (within10 x y m)) := by
  unfold within10
  cases c1 : (decide (x ≥ (IntKind.i64.wrap (0 - m))))
  · exact Runs.script (r := .bool false) (ps := [(decide (x ≥ (IntKind.i64.wrap (0 - m)))) = false, false = false, false = false]) TPA_holds rfl 300 rfl [.b false, .b false, .b false] (by kernel_rfl) ⟨c1, rfl, rfl, trivial⟩
  · cases c2 : (decide (x ≤ m))
    · exact Runs.script (r := .bool false) (ps := [(decide (x ≥ (IntKind.i64.wrap (0 - m)))) = true, (decide (x ≤ m)) = false, false = false]) TPA_holds rfl 300 rfl [.b true, .b false, .b false] (by kernel_rfl) ⟨c1, c2, rfl, trivial⟩
    · cases c3 : (decide (y ≥ (IntKind.i64.wrap (0 - m))))
      · exact Runs.script (r := .bool false) (ps := [(decide (x ≥ (IntKind.i64.wrap (0 - m)))) = true, (decide (x ≤ m)) = true, (decide (y ≥ (IntKind.i64.wrap (0 - m)))) = false]) TPA_holds rfl 300 rfl [.b true, .b true, .b false] (by kernel_rfl) ⟨c1, c2, c3, trivial⟩
      · exact Runs.script (r := .bool (decide (y ≤ m))) (ps := [(decide (x ≥ (IntKind.i64.wrap (0 - m)))) = true, (decide (x ≤ m)) = true, (decide (y ≥ (IntKind.i64.wrap (0 - m)))) = true]) TPA_holds rfl 300 rfl [.b true, .b true, .b true] (by kernel_rfl) ⟨c1, c2, c3, trivial⟩

def g80 : List AV → Option (AV × List Prop)
  | [.agg [.int .i64 x, .int .i64 y], .int .i64 m] => some (.bool (within10 x y m), [])
  | _ => none
def TDs1 : Table := (80, g80) :: TPA
theorem TDs1_holds : THolds Try.ir TDs1 := THolds.cons TPA_holds (by
  intro args r ps h hp
  unfold g80 at h
  split at h
  · cases h; exact Try.run80 _ _ _ 
  · cases h)

def validF (p1 p2 v1 v2 h1 h2 : Int) : Bool :=
  match within10 p1 p2 8388608 with
  | true => (match within10 v1 v2 262144 with
  | true => ((within10 h1 h2 4096))
  | false => (false))
  | false => (false)
theorem Try.run61 (p1 p2 v1 v2 h1 h2 : Int)  : Runs Try.ir 61 [.agg [.int .i64 p1, .int .i64 p2, .int .i64 v1, .int .i64 v2, .int .i64 h1, .int .i64 h2]] (.bool (validF p1 p2 v1 v2 h1 h2)) := by
  unfold validF
  cases c1 : (within10 p1 p2 8388608)
  · exact Runs.script (r := .bool false) (ps := [(within10 p1 p2 8388608) = false, false = false]) TDs1_holds rfl 300 rfl [.b false, .b false] (by kernel_rfl) ⟨c1, rfl, trivial⟩
  · cases c2 : (within10 v1 v2 262144)
    · exact Runs.script (r := .bool false) (ps := [(within10 p1 p2 8388608) = true, (within10 v1 v2 262144) = false]) TDs1_holds rfl 300 rfl [.b true, .b false] (by kernel_rfl) ⟨c1, c2, trivial⟩
    · exact Runs.script (r := .bool (within10 h1 h2 4096)) (ps := [(within10 p1 p2 8388608) = true, (within10 v1 v2 262144) = true]) TDs1_holds rfl 300 rfl [.b true, .b true] (by kernel_rfl) ⟨c1, c2, trivial⟩

def g61 : List AV → Option (AV × List Prop)
  | [.agg [.int .i64 p1, .int .i64 p2, .int .i64 v1, .int .i64 v2, .int .i64 h1, .int .i64 h2]] => some (.bool (validF p1 p2 v1 v2 h1 h2), [])
  | _ => none
def TDs2 : Table := (61, g61) :: TDs1
theorem TDs2_holds : THolds Try.ir TDs2 := THolds.cons TDs1_holds (by
  intro args r ps h hp
  unfold g61 at h
  split at h
  · cases h; exact Try.run61 _ _ _ _ _ _ 
  · cases h)

def near10 (x y m : Int) : Bool :=
  match decide (x ≥ (IntKind.i64.wrap (0 - m))) with
  | true => (match decide (x ≤ m) with
  | true => (match decide (y ≥ (IntKind.i64.wrap (0 - m))) with
  | true => ((decide (y ≤ m)))
  | false => (false))
  | false => (false))
  | false => (false)
theorem Try.run60 (x y m : Int)  : Runs Try.ir 60 [.agg [.int .i64 x, .int .i64 y], .int .i64 m] (.bool (near10 x y m)) := by
  unfold near10
  cases c1 : (decide (x ≥ (IntKind.i64.wrap (0 - m))))
  · exact Runs.script (r := .bool false) (ps := [(decide (x ≥ (IntKind.i64.wrap (0 - m)))) = false, false = false, false = false]) TDs2_holds rfl 300 rfl [.b false, .b false, .b false] (by kernel_rfl) ⟨c1, rfl, rfl, trivial⟩
  · cases c2 : (decide (x ≤ m))
    · exact Runs.script (r := .bool false) (ps := [(decide (x ≥ (IntKind.i64.wrap (0 - m)))) = true, (decide (x ≤ m)) = false, false = false]) TDs2_holds rfl 300 rfl [.b true, .b false, .b false] (by kernel_rfl) ⟨c1, c2, rfl, trivial⟩
    · cases c3 : (decide (y ≥ (IntKind.i64.wrap (0 - m))))
      · exact Runs.script (r := .bool false) (ps := [(decide (x ≥ (IntKind.i64.wrap (0 - m)))) = true, (decide (x ≤ m)) = true, (decide (y ≥ (IntKind.i64.wrap (0 - m)))) = false]) TDs2_holds rfl 300 rfl [.b true, .b true, .b false] (by kernel_rfl) ⟨c1, c2, c3, trivial⟩
      · exact Runs.script (r := .bool (decide (y ≤ m))) (ps := [(decide (x ≥ (IntKind.i64.wrap (0 - m)))) = true, (decide (x ≤ m)) = true, (decide (y ≥ (IntKind.i64.wrap (0 - m)))) = true]) TDs2_holds rfl 300 rfl [.b true, .b true, .b true] (by kernel_rfl) ⟨c1, c2, c3, trivial⟩

def g60 : List AV → Option (AV × List Prop)
  | [.agg [.int .i64 x, .int .i64 y], .int .i64 m] => some (.bool (near10 x y m), [])
  | _ => none
def TDs3 : Table := (60, g60) :: TDs2
theorem TDs3_holds : THolds Try.ir TDs3 := THolds.cons TDs2_holds (by
  intro args r ps h hp
  unfold g60 at h
  split at h
  · cases h; exact Try.run60 _ _ _ 
  · cases h)

def valid10 (p1 p2 v1 v2 h1 h2 : Int) : Bool :=
  match near10 p1 p2 8388608 with
  | true => (match near10 v1 v2 262144 with
  | true => ((near10 h1 h2 4096))
  | false => (false))
  | false => (false)
theorem Try.run35 (p1 p2 v1 v2 h1 h2 : Int)  : Runs Try.ir 35 [.agg [.int .i64 p1, .int .i64 p2, .int .i64 v1, .int .i64 v2, .int .i64 h1, .int .i64 h2]] (.bool (valid10 p1 p2 v1 v2 h1 h2)) := by
  unfold valid10
  cases c1 : (near10 p1 p2 8388608)
  · exact Runs.script (r := .bool false) (ps := [(near10 p1 p2 8388608) = false, false = false]) TDs3_holds rfl 300 rfl [.b false, .b false] (by kernel_rfl) ⟨c1, rfl, trivial⟩
  · cases c2 : (near10 v1 v2 262144)
    · exact Runs.script (r := .bool false) (ps := [(near10 p1 p2 8388608) = true, (near10 v1 v2 262144) = false]) TDs3_holds rfl 300 rfl [.b true, .b false] (by kernel_rfl) ⟨c1, c2, trivial⟩
    · exact Runs.script (r := .bool (near10 h1 h2 4096)) (ps := [(near10 p1 p2 8388608) = true, (near10 v1 v2 262144) = true]) TDs3_holds rfl 300 rfl [.b true, .b true] (by kernel_rfl) ⟨c1, c2, trivial⟩

def g35 : List AV → Option (AV × List Prop)
  | [.agg [.int .i64 p1, .int .i64 p2, .int .i64 v1, .int .i64 v2, .int .i64 h1, .int .i64 h2]] => some (.bool (valid10 p1 p2 v1 v2 h1 h2), [])
  | _ => none
def TDs4 : Table := (35, g35) :: TDs3
theorem TDs4_holds : THolds Try.ir TDs4 := THolds.cons TDs3_holds (by
  intro args r ps h hp
  unfold g35 at h
  split at h
  · cases h; exact Try.run35 _ _ _ _ _ _ 
  · cases h)

theorem sqnn (y : Int) : 0 ≤ y * y := by
  rcases Int.le_total 0 y with h | h
  · exact Int.mul_nonneg h h
  · have := Int.mul_nonneg (show 0 ≤ -y by omega) (show 0 ≤ -y by omega)
    rwa [Int.neg_mul_neg] at this
theorem sqle {x n : Int} (h : -n ≤ x ∧ x ≤ n) : x * x ≤ n * n := (mul_bd h.1 h.2 h.1 h.2).2

theorem Try.run64 (xs : List Int) (ts : List Rn) (n1 : Runs Try.ir 73 [.sl xs.length (li xs)] (.fresh 2 ts.length (pc ts))) : Runs Try.ir 64 [.sl xs.length (li xs)] (.fresh 2 ts.length (pc ts)) :=
  Runs.script (r := .fresh 2 ts.length (pc ts)) (ps := [Runs Try.ir 73 [.sl xs.length (li xs)] (.fresh 2 ts.length (pc ts))]) TPA_holds rfl 400 rfl [.r (.fresh 2 ts.length (pc ts))] (by kernel_rfl) ⟨n1, trivial⟩

theorem Try.run62 (p1 p2 v1 v2 h1 h2 : Int) (xs ys : List Rn) (n1 : Runs Try.ir 61 [.agg [.int .i64 p1, .int .i64 p2, .int .i64 v1, .int .i64 v2, .int .i64 h1, .int .i64 h2]] (.bool true))
    (n2 : Runs Try.ir 64 [.sl 3 [.int .i64 p1, .int .i64 v1, .int .i64 h1]] (.fresh 2 xs.length (pc xs)))
    (n3 : Runs Try.ir 64 [.sl 3 [.int .i64 p2, .int .i64 v2, .int .i64 h2]] (.fresh 2 ys.length (pc ys))) : Runs Try.ir 62 [.agg [.int .i64 p1, .int .i64 p2, .int .i64 v1, .int .i64 v2, .int .i64 h1, .int .i64 h2]] (.tup [.sl xs.length (pc xs), .sl ys.length (pc ys)]) :=
  Runs.script (r := .tup [.sl xs.length (pc xs), .sl ys.length (pc ys)]) (ps := [Runs Try.ir 61 [.agg [.int .i64 p1, .int .i64 p2, .int .i64 v1, .int .i64 v2, .int .i64 h1, .int .i64 h2]] (.bool true), false = false, Runs Try.ir 64 [.sl 3 [.int .i64 p1, .int .i64 v1, .int .i64 h1]] (.fresh 2 xs.length (pc xs)), Runs Try.ir 64 [.sl 3 [.int .i64 p2, .int .i64 v2, .int .i64 h2]] (.fresh 2 ys.length (pc ys))]) TPA_holds rfl 400 rfl [.r (.bool true), .b false, .r (.fresh 2 xs.length (pc xs)), .r (.fresh 2 ys.length (pc ys))] (by kernel_rfl) ⟨n1, rfl, n2, n3, trivial⟩

theorem Try.run101 (p1 p2 v1 v2 h1 h2 z1 z2 : Int) (xs ys cx cy us vs : List Rn) (n1 : Runs Try.ir 62 [.agg [.int .i64 p1, .int .i64 p2, .int .i64 v1, .int .i64 v2, .int .i64 h1, .int .i64 h2]] (.tup [.sl xs.length (pc xs), .sl ys.length (pc ys)]))
    (n2 : Runs Try.ir 73 [.sl 1 [.int .i64 z1]] (.fresh 2 cx.length (pc cx)))
    (n3 : Runs Try.ir 63 [.sl xs.length (pc xs), .sl cx.length (pc cx)] (.fresh 2 us.length (pc us)))
    (n4 : Runs Try.ir 73 [.sl 1 [.int .i64 z2]] (.fresh 2 cy.length (pc cy)))
    (n5 : Runs Try.ir 63 [.sl ys.length (pc ys), .sl cy.length (pc cy)] (.fresh 2 vs.length (pc vs))) : Runs Try.ir 101 [.agg [.int .i64 p1, .int .i64 p2, .int .i64 v1, .int .i64 v2, .int .i64 h1, .int .i64 h2], .agg [.int .i64 z1, .int .i64 z2]] (.tup [.sl us.length (pc us), .sl vs.length (pc vs)]) :=
  Runs.script (r := .tup [.sl us.length (pc us), .sl vs.length (pc vs)]) (ps := [Runs Try.ir 62 [.agg [.int .i64 p1, .int .i64 p2, .int .i64 v1, .int .i64 v2, .int .i64 h1, .int .i64 h2]] (.tup [.sl xs.length (pc xs), .sl ys.length (pc ys)]), Runs Try.ir 73 [.sl 1 [.int .i64 z1]] (.fresh 2 cx.length (pc cx)), Runs Try.ir 63 [.sl xs.length (pc xs), .sl cx.length (pc cx)] (.fresh 2 us.length (pc us)), Runs Try.ir 73 [.sl 1 [.int .i64 z2]] (.fresh 2 cy.length (pc cy)), Runs Try.ir 63 [.sl ys.length (pc ys), .sl cy.length (pc cy)] (.fresh 2 vs.length (pc vs))]) TPA_holds rfl 400 rfl [.r (.tup [.sl xs.length (pc xs), .sl ys.length (pc ys)]), .r (.fresh 2 cx.length (pc cx)), .r (.fresh 2 us.length (pc us)), .r (.fresh 2 cy.length (pc cy)), .r (.fresh 2 vs.length (pc vs))] (by kernel_rfl) ⟨n1, n2, n3, n4, n5, trivial⟩

theorem Try.run100 (xs ys us vs ws : List Rn) (n1 : Runs Try.ir 66 [.sl xs.length (pc xs), .sl xs.length (pc xs)] (.fresh 2 us.length (pc us)))
    (n2 : Runs Try.ir 66 [.sl ys.length (pc ys), .sl ys.length (pc ys)] (.fresh 2 vs.length (pc vs)))
    (n3 : Runs Try.ir 65 [.sl us.length (pc us), .sl vs.length (pc vs)] (.fresh 2 ws.length (pc ws))) : Runs Try.ir 100 [.sl xs.length (pc xs), .sl ys.length (pc ys)] (.fresh 2 ws.length (pc ws)) :=
  Runs.script (r := .fresh 2 ws.length (pc ws)) (ps := [Runs Try.ir 66 [.sl xs.length (pc xs), .sl xs.length (pc xs)] (.fresh 2 us.length (pc us)), Runs Try.ir 66 [.sl ys.length (pc ys), .sl ys.length (pc ys)] (.fresh 2 vs.length (pc vs)), Runs Try.ir 65 [.sl us.length (pc us), .sl vs.length (pc vs)] (.fresh 2 ws.length (pc ws))]) TPA_holds rfl 400 rfl [.r (.fresh 2 us.length (pc us)), .r (.fresh 2 vs.length (pc vs)), .r (.fresh 2 ws.length (pc ws))] (by kernel_rfl) ⟨n1, n2, n3, trivial⟩

theorem Try.run85 (p1 p2 v1 v2 h1 h2 z1 z2 reach : Int) (xs ys rs us ws : List Rn) (n1 : Runs Try.ir 73 [.sl 1 [.int .i64 (IntKind.i64.wrap (reach * reach))]] (.fresh 2 rs.length (pc rs)))
    (n2 : Runs Try.ir 101 [.agg [.int .i64 p1, .int .i64 p2, .int .i64 v1, .int .i64 v2, .int .i64 h1, .int .i64 h2], .agg [.int .i64 z1, .int .i64 z2]] (.tup [.sl xs.length (pc xs), .sl ys.length (pc ys)]))
    (n3 : Runs Try.ir 100 [.sl xs.length (pc xs), .sl ys.length (pc ys)] (.fresh 2 us.length (pc us)))
    (n4 : Runs Try.ir 63 [.sl rs.length (pc rs), .sl us.length (pc us)] (.fresh 2 ws.length (pc ws))) : Runs Try.ir 85 [.agg [.int .i64 p1, .int .i64 p2, .int .i64 v1, .int .i64 v2, .int .i64 h1, .int .i64 h2], .agg [.int .i64 z1, .int .i64 z2], .int .i64 reach] (.fresh 2 ws.length (pc ws)) :=
  Runs.script (r := .fresh 2 ws.length (pc ws)) (ps := [Runs Try.ir 73 [.sl 1 [.int .i64 (IntKind.i64.wrap (reach * reach))]] (.fresh 2 rs.length (pc rs)), Runs Try.ir 101 [.agg [.int .i64 p1, .int .i64 p2, .int .i64 v1, .int .i64 v2, .int .i64 h1, .int .i64 h2], .agg [.int .i64 z1, .int .i64 z2]] (.tup [.sl xs.length (pc xs), .sl ys.length (pc ys)]), Runs Try.ir 100 [.sl xs.length (pc xs), .sl ys.length (pc ys)] (.fresh 2 us.length (pc us)), Runs Try.ir 63 [.sl rs.length (pc rs), .sl us.length (pc us)] (.fresh 2 ws.length (pc ws))]) TPA_holds rfl 400 rfl [.r (.fresh 2 rs.length (pc rs)), .r (.tup [.sl xs.length (pc xs), .sl ys.length (pc ys)]), .r (.fresh 2 us.length (pc us)), .r (.fresh 2 ws.length (pc ws))] (by kernel_rfl) ⟨n1, n2, n3, n4, trivial⟩

theorem Try.run68 (p1 p2 v1 v2 h1 h2 z1 z2 reach : Int) (ds : List Rn) (c1 : (decide (reach < 1)) = false)
    (c2 : (decide (reach > 524288)) = false)
    (n1 : Runs Try.ir 61 [.agg [.int .i64 p1, .int .i64 p2, .int .i64 v1, .int .i64 v2, .int .i64 h1, .int .i64 h2]] (.bool true))
    (n2 : Runs Try.ir 76 [.int .i64 1048576, .sl 1 [.int .i64 z1, .int .i64 z2]] (.bool true))
    (n3 : Runs Try.ir 85 [.agg [.int .i64 p1, .int .i64 p2, .int .i64 v1, .int .i64 v2, .int .i64 h1, .int .i64 h2], .agg [.int .i64 z1, .int .i64 z2], .int .i64 reach] (.fresh 2 ds.length (pc ds))) : Runs Try.ir 68 [.agg [.int .i64 p1, .int .i64 p2, .int .i64 v1, .int .i64 v2, .int .i64 h1, .int .i64 h2], .agg [.int .i64 z1, .int .i64 z2], .int .i64 reach] (.fresh 1 1 [.sl 1 [.sl ds.length (pc ds)]]) :=
  Runs.script (r := .fresh 1 1 [.sl 1 [.sl ds.length (pc ds)]]) (ps := [Runs Try.ir 61 [.agg [.int .i64 p1, .int .i64 p2, .int .i64 v1, .int .i64 v2, .int .i64 h1, .int .i64 h2]] (.bool true), false = false, Runs Try.ir 76 [.int .i64 1048576, .sl 1 [.int .i64 z1, .int .i64 z2]] (.bool true), false = false, (decide (reach < 1)) = false, (decide (reach > 524288)) = false, Runs Try.ir 85 [.agg [.int .i64 p1, .int .i64 p2, .int .i64 v1, .int .i64 v2, .int .i64 h1, .int .i64 h2], .agg [.int .i64 z1, .int .i64 z2], .int .i64 reach] (.fresh 2 ds.length (pc ds))]) TPA_holds rfl 400 rfl [.r (.bool true), .b false, .r (.bool true), .b false, .b false, .b false, .r (.fresh 2 ds.length (pc ds))] (by kernel_rfl) ⟨n1, rfl, n2, rfl, c1, c2, n3, trivial⟩

theorem Try.run37 (p1 p2 v1 v2 h1 h2 : Int) (n1 : Runs Try.ir 35 [.agg [.int .i64 p1, .int .i64 p2, .int .i64 v1, .int .i64 v2, .int .i64 h1, .int .i64 h2]] (.bool true)) : Runs Try.ir 37 [.agg [.int .i64 p1, .int .i64 p2, .int .i64 v1, .int .i64 v2, .int .i64 h1, .int .i64 h2]] (.tup [.agg [.int .i64 (IntKind.i64.wrap ((IntKind.i64.wrap (p1 + v1)) + h1)), .int .i64 (IntKind.i64.wrap ((IntKind.i64.wrap (p2 + v2)) + h2))], .agg [.int .i64 (IntKind.i64.wrap (v1 + (IntKind.i64.wrap (2 * h1)))), .int .i64 (IntKind.i64.wrap (v2 + (IntKind.i64.wrap (2 * h2))))]]) :=
  Runs.script (r := .tup [.agg [.int .i64 (IntKind.i64.wrap ((IntKind.i64.wrap (p1 + v1)) + h1)), .int .i64 (IntKind.i64.wrap ((IntKind.i64.wrap (p2 + v2)) + h2))], .agg [.int .i64 (IntKind.i64.wrap (v1 + (IntKind.i64.wrap (2 * h1)))), .int .i64 (IntKind.i64.wrap (v2 + (IntKind.i64.wrap (2 * h2))))]]) (ps := [Runs Try.ir 35 [.agg [.int .i64 p1, .int .i64 p2, .int .i64 v1, .int .i64 v2, .int .i64 h1, .int .i64 h2]] (.bool true), false = false]) TPA_holds rfl 400 rfl [.r (.bool true), .b false] (by kernel_rfl) ⟨n1, rfl, trivial⟩


theorem in10 {x y m : Int} (hm : 0 ≤ m ∧ m ≤ 1073741824) (h : near10 x y m = true) : In m x y := by
  unfold near10 at h
  unfold In
  have w : IntKind.i64.wrap (0 - m) = -m := by rw [w64 (by omega) (by omega)]; omega
  rw [w] at h
  repeat (split at h; rotate_left; · simp at h)
  simp only [decide_eq_true_eq] at *
  omega
theorem within10_of {x y m : Int} (hm : 0 ≤ m ∧ m ≤ 1073741824) (h : In m x y) : within10 x y m = true := by
  unfold In at h
  unfold within10
  have w : IntKind.i64.wrap (0 - m) = -m := by rw [w64 (by omega) (by omega)]; omega
  rw [w, decide_eq_true (show x ≥ -m by omega), decide_eq_true (show x ≤ m by omega), decide_eq_true (show y ≥ -m by omega), decide_eq_true (show y ≤ m by omega)]
theorem valid10_yes {p1 p2 v1 v2 h1 h2 : Int} (h : valid10 p1 p2 v1 v2 h1 h2 = true) : In 8388608 p1 p2 ∧ In 262144 v1 v2 ∧ In 4096 h1 h2 := by
  unfold valid10 at h
  cases g1 : near10 p1 p2 8388608 <;> cases g2 : near10 v1 v2 262144 <;> simp only [g1, g2, Bool.false_eq_true] at h
  exact ⟨in10 (by decide) g1, in10 (by decide) g2, in10 (by decide) h⟩
theorem validF_of {p1 p2 v1 v2 h1 h2 : Int} (a : In 8388608 p1 p2) (b : In 262144 v1 v2) (c : In 4096 h1 h2) : validF p1 p2 v1 v2 h1 h2 = true := by
  unfold validF
  rw [within10_of (by decide) a, within10_of (by decide) b, within10_of (by decide) c]
theorem li_i64 {a b c n : Int} (ha : -n ≤ a ∧ a ≤ n) (hb : -n ≤ b ∧ b ≤ n) (hc : -n ≤ c ∧ c ≤ n) (hn : n ≤ 9223372036854775807) : ∀ x ∈ [a, b, c], -9223372036854775808 ≤ x ∧ x ≤ 9223372036854775807 := by
  intro x hx
  simp only [List.mem_cons, List.not_mem_nil, or_false] at hx
  rcases hx with rfl | rfl | rfl <;> omega
theorem li1_i64 {a : Int} (ha : -9223372036854775808 ≤ a ∧ a ≤ 9223372036854775807) : ∀ x ∈ [a], -9223372036854775808 ≤ x ∧ x ≤ 9223372036854775807 := by
  intro x hx
  rw [List.mem_singleton.1 hx]; exact ha
theorem ints1_P {a : Int} (ha : -9223372036854775808 ≤ a ∧ a ≤ 9223372036854775807) : ∃ ts, IsP ts (peval [a]) 1 2 ∧ Runs Try.ir 73 [.sl 1 [.int .i64 a]] (.fresh 2 ts.length (pc ts)) := ints_P (xs := [a]) (li1_i64 ha) (by simp)
theorem ints3_P {a b c n : Int} (ha : -n ≤ a ∧ a ≤ n) (hb : -n ≤ b ∧ b ≤ n) (hc : -n ≤ c ∧ c ≤ n) (hn : n ≤ 9223372036854775807) : ∃ ts, IsP ts (peval [a, b, c]) 3 2 ∧ Runs Try.ir 73 [.sl 3 [.int .i64 a, .int .i64 b, .int .i64 c]] (.fresh 2 ts.length (pc ts)) := ints_P (xs := [a, b, c]) (li_i64 ha hb hc hn) (by simp)
theorem polys_P {p1 p2 v1 v2 h1 h2 : Int} (a : In 8388608 p1 p2) (b : In 262144 v1 v2) (c : In 4096 h1 h2) : ∃ xs ys, IsP xs (peval [p1, v1, h1]) 3 2 ∧ IsP ys (peval [p2, v2, h2]) 3 2 ∧
    Runs Try.ir 62 [.agg [.int .i64 p1, .int .i64 p2, .int .i64 v1, .int .i64 v2, .int .i64 h1, .int .i64 h2]] (.tup [.sl xs.length (pc xs), .sl ys.length (pc ys)]) := by
  have hv : Runs Try.ir 61 [.agg [.int .i64 p1, .int .i64 p2, .int .i64 v1, .int .i64 v2, .int .i64 h1, .int .i64 h2]] (.bool true) := by
    have := Try.run61 p1 p2 v1 v2 h1 h2
    rwa [validF_of a b c] at this
  unfold In at a b c
  obtain ⟨xs, i1, r1⟩ := ints3_P (n := 8388608) (a := p1) (b := v1) (c := h1) (by omega) (by omega) (by omega) (by omega)
  obtain ⟨ys, i2, r2⟩ := ints3_P (n := 8388608) (a := p2) (b := v2) (c := h2) (by omega) (by omega) (by omega) (by omega)
  exact ⟨xs, ys, i1, i2, Try.run62 p1 p2 v1 v2 h1 h2 xs ys hv (Try.run64 [p1, v1, h1] xs r1) (Try.run64 [p2, v2, h2] ys r2)⟩
theorem relative_P {p1 p2 v1 v2 h1 h2 z1 z2 : Int} (a : In 8388608 p1 p2) (b : In 262144 v1 v2) (c : In 4096 h1 h2) (d : In 1048576 z1 z2) : ∃ us vs, IsP us (fun t => peval [p1, v1, h1] t - peval [z1] t) 3 3 ∧ IsP vs (fun t => peval [p2, v2, h2] t - peval [z2] t) 3 3 ∧
    Runs Try.ir 101 [.agg [.int .i64 p1, .int .i64 p2, .int .i64 v1, .int .i64 v2, .int .i64 h1, .int .i64 h2], .agg [.int .i64 z1, .int .i64 z2]] (.tup [.sl us.length (pc us), .sl vs.length (pc vs)]) := by
  obtain ⟨xs, ys, i1, i2, r⟩ := polys_P a b c
  unfold In at d
  obtain ⟨cx, j1, s1⟩ := ints1_P (a := z1) (by omega)
  obtain ⟨cy, j2, s2⟩ := ints1_P (a := z2) (by omega)
  obtain ⟨us, k1, t1⟩ := minus_P i1 j1 (by decide) (by decide)
  obtain ⟨vs, k2, t2⟩ := minus_P i2 j2 (by decide) (by decide)
  exact ⟨us, vs, k1, k2, Try.run101 p1 p2 v1 v2 h1 h2 z1 z2 xs ys cx cy us vs r s1 t1 s2 t2⟩
theorem square_P {xs ys : List Rn} {f g : Int → Int} (hx : IsP xs f 3 3) (hy : IsP ys g 3 3) : ∃ ws, IsP ws (fun t => f t * f t + g t * g t) 6 10 ∧ Runs Try.ir 100 [.sl xs.length (pc xs), .sl ys.length (pc ys)] (.fresh 2 ws.length (pc ws)) := by
  obtain ⟨us, i1, r1⟩ := times_P hx hx (by decide) (by decide)
  obtain ⟨vs, i2, r2⟩ := times_P hy hy (by decide) (by decide)
  obtain ⟨ws, i3, r3⟩ := plus_P i1 i2 (by decide) (by decide)
  exact ⟨ws, i3, Try.run100 xs ys us vs ws r1 r2 r3⟩
theorem disc_P {p1 p2 v1 v2 h1 h2 z1 z2 R : Int} (a : In 8388608 p1 p2) (b : In 262144 v1 v2) (c : In 4096 h1 h2) (d : In 1048576 z1 z2) (hR : 1 ≤ R ∧ R ≤ 524288) :
    ∃ ws, IsP ws (fun t => peval [R * R] t - ((peval [p1, v1, h1] t - peval [z1] t) * (peval [p1, v1, h1] t - peval [z1] t) + (peval [p2, v2, h2] t - peval [z2] t) * (peval [p2, v2, h2] t - peval [z2] t))) 6 11 ∧
    Runs Try.ir 85 [.agg [.int .i64 p1, .int .i64 p2, .int .i64 v1, .int .i64 v2, .int .i64 h1, .int .i64 h2], .agg [.int .i64 z1, .int .i64 z2], .int .i64 R] (.fresh 2 ws.length (pc ws)) := by
  have hRR := sqle (x := R) (n := 524288) (by omega)
  have hRn := sqnn R
  have w : IntKind.i64.wrap (R * R) = R * R := w64 (by omega) (by omega)
  obtain ⟨xs, ys, i1, i2, r⟩ := relative_P a b c d
  obtain ⟨rs, j1, s1⟩ := ints1_P (a := R * R) (by omega)
  obtain ⟨us, i3, r3⟩ := square_P i1 i2
  obtain ⟨ws, i4, r4⟩ := minus_P j1 i3 (by decide) (by decide)
  exact ⟨ws, i4, Try.run85 p1 p2 v1 v2 h1 h2 z1 z2 R xs ys rs us ws (by rw [w]; exact s1) r r3 r4⟩
theorem within_run {z1 z2 : Int} (d : In 1048576 z1 z2) : Runs Try.ir 76 [.int .i64 1048576, .sl 1 [.int .i64 z1, .int .i64 z2]] (.bool true) := by
  have h := TArc_holds 76 [.int .i64 1048576, .sl 1 [.int .i64 z1, .int .i64 z2]] (.bool (inB 1048576 z1 z2)) _ rfl ⟨by decide, by decide, trivial⟩
  rwa [inB_mk (by unfold In at d; omega)] at h
theorem Disc_P {p1 p2 v1 v2 h1 h2 z1 z2 R : Int} (a : In 8388608 p1 p2) (b : In 262144 v1 v2) (c : In 4096 h1 h2) (d : In 1048576 z1 z2) (hR : 1 ≤ R ∧ R ≤ 524288) :
    ∃ ws, IsP ws (fun t => peval [R * R] t - ((peval [p1, v1, h1] t - peval [z1] t) * (peval [p1, v1, h1] t - peval [z1] t) + (peval [p2, v2, h2] t - peval [z2] t) * (peval [p2, v2, h2] t - peval [z2] t))) 6 11 ∧
    Runs Try.ir 85 [.agg [.int .i64 p1, .int .i64 p2, .int .i64 v1, .int .i64 v2, .int .i64 h1, .int .i64 h2], .agg [.int .i64 z1, .int .i64 z2], .int .i64 R] (.fresh 2 ws.length (pc ws)) ∧
    Runs Try.ir 68 [.agg [.int .i64 p1, .int .i64 p2, .int .i64 v1, .int .i64 v2, .int .i64 h1, .int .i64 h2], .agg [.int .i64 z1, .int .i64 z2], .int .i64 R] (.fresh 1 ([[ws]] : PPP).length (ppp [[ws]])) := by
  obtain ⟨ws, i1, r1⟩ := disc_P a b c d hR
  have hv : Runs Try.ir 61 [.agg [.int .i64 p1, .int .i64 p2, .int .i64 v1, .int .i64 v2, .int .i64 h1, .int .i64 h2]] (.bool true) := by
    have := Try.run61 p1 p2 v1 v2 h1 h2
    rwa [validF_of a b c] at this
  exact ⟨ws, i1, r1, Try.run68 p1 p2 v1 v2 h1 h2 z1 z2 R ws (by simp; omega) (by simp; omega) hv (within_run d) r1⟩

/-! ### At the beginning and at the end -/
theorem hv_scale (ts : List Int) (x d : Int) : d * hv ts (d * x) d = d ^ ts.length * peval ts x := by
  induction ts with
  | nil => simp [hv, peval]
  | cons t ts ih =>
    simp only [hv, peval, List.length_cons, Int.pow_succ]
    generalize d ^ ts.length = p at *
    generalize hv ts (d * x) d = H at *
    generalize peval ts x = E at *
    have : d * (t * p + d * x * H) = d * (t * p) + d * x * (d * H) := by grind
    rw [this, ih]
    grind

def TDs : Table := TDs4
theorem TDs_holds : THolds Try.ir TDs := TDs4_holds
end Go.Proofs.Ythakfjlnhldehaa
