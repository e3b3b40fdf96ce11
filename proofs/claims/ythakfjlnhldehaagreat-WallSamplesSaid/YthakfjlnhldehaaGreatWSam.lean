/- The package wall: its conditions, as polynomials. -/
import Derived.Test.YthakfjlnhldehaaGreatAt
import Derived.Test.YthakfjlnhldehaaGreatAlgP
import Derived.Test.YthakfjlnhldehaaGreatWallTools
namespace Go.Proofs.YthakfjlnhldehaaGreat
open Go.Ai
set_option maxRecDepth 100000

def within10 (x y m : Int) : Bool :=
  match decide (x ≥ (IntKind.i64.wrap (0 - m))) with
  | true => (match decide (x ≤ m) with
  | true => (match decide (y ≥ (IntKind.i64.wrap (0 - m))) with
  | true => ((decide (y ≤ m)))
  | false => (false))
  | false => (false))
  | false => (false)
theorem Tryz.run78 (x y m : Int)  : Runs Tryz.ir 78 [.agg [.int .i64 x, .int .i64 y], .int .i64 m] (.bool (within10 x y m)) := by
  unfold within10
  cases c1 : (decide (x ≥ (IntKind.i64.wrap (0 - m))))
  · exact Runs.script (r := .bool false) (ps := [(decide (x ≥ (IntKind.i64.wrap (0 - m)))) = false, false = false, false = false]) TPA_holds rfl 300 rfl [.b false, .b false, .b false] (by kernel_rfl) ⟨c1, rfl, rfl, trivial⟩
  · cases c2 : (decide (x ≤ m))
    · exact Runs.script (r := .bool false) (ps := [(decide (x ≥ (IntKind.i64.wrap (0 - m)))) = true, (decide (x ≤ m)) = false, false = false]) TPA_holds rfl 300 rfl [.b true, .b false, .b false] (by kernel_rfl) ⟨c1, c2, rfl, trivial⟩
    · cases c3 : (decide (y ≥ (IntKind.i64.wrap (0 - m))))
      · exact Runs.script (r := .bool false) (ps := [(decide (x ≥ (IntKind.i64.wrap (0 - m)))) = true, (decide (x ≤ m)) = true, (decide (y ≥ (IntKind.i64.wrap (0 - m)))) = false]) TPA_holds rfl 300 rfl [.b true, .b true, .b false] (by kernel_rfl) ⟨c1, c2, c3, trivial⟩
      · exact Runs.script (r := .bool (decide (y ≤ m))) (ps := [(decide (x ≥ (IntKind.i64.wrap (0 - m)))) = true, (decide (x ≤ m)) = true, (decide (y ≥ (IntKind.i64.wrap (0 - m)))) = true]) TPA_holds rfl 300 rfl [.b true, .b true, .b true] (by kernel_rfl) ⟨c1, c2, c3, trivial⟩

def g78 : List AV → Option (AV × List Prop)
  | [.agg [.int .i64 x, .int .i64 y], .int .i64 m] => some (.bool (within10 x y m), [])
  | _ => none
def TWs1 : Table := (78, g78) :: TPA
theorem TWs1_holds : THolds Tryz.ir TWs1 := THolds.cons TPA_holds (by
  intro args r ps h hp
  unfold g78 at h
  split at h
  · cases h; exact Tryz.run78 _ _ _ 
  · cases h)

def validF (p1 p2 v1 v2 h1 h2 : Int) : Bool :=
  match within10 p1 p2 8388608 with
  | true => (match within10 v1 v2 262144 with
  | true => ((within10 h1 h2 4096))
  | false => (false))
  | false => (false)
theorem Tryz.run53 (p1 p2 v1 v2 h1 h2 : Int)  : Runs Tryz.ir 53 [.agg [.int .i64 p1, .int .i64 p2, .int .i64 v1, .int .i64 v2, .int .i64 h1, .int .i64 h2]] (.bool (validF p1 p2 v1 v2 h1 h2)) := by
  unfold validF
  cases c1 : (within10 p1 p2 8388608)
  · exact Runs.script (r := .bool false) (ps := [(within10 p1 p2 8388608) = false, false = false]) TWs1_holds rfl 300 rfl [.b false, .b false] (by kernel_rfl) ⟨c1, rfl, trivial⟩
  · cases c2 : (within10 v1 v2 262144)
    · exact Runs.script (r := .bool false) (ps := [(within10 p1 p2 8388608) = true, (within10 v1 v2 262144) = false]) TWs1_holds rfl 300 rfl [.b true, .b false] (by kernel_rfl) ⟨c1, c2, trivial⟩
    · exact Runs.script (r := .bool (within10 h1 h2 4096)) (ps := [(within10 p1 p2 8388608) = true, (within10 v1 v2 262144) = true]) TWs1_holds rfl 300 rfl [.b true, .b true] (by kernel_rfl) ⟨c1, c2, trivial⟩

def g53 : List AV → Option (AV × List Prop)
  | [.agg [.int .i64 p1, .int .i64 p2, .int .i64 v1, .int .i64 v2, .int .i64 h1, .int .i64 h2]] => some (.bool (validF p1 p2 v1 v2 h1 h2), [])
  | _ => none
def TWs2 : Table := (53, g53) :: TWs1
theorem TWs2_holds : THolds Tryz.ir TWs2 := THolds.cons TWs1_holds (by
  intro args r ps h hp
  unfold g53 at h
  split at h
  · cases h; exact Tryz.run53 _ _ _ _ _ _ 
  · cases h)

def near10 (x y m : Int) : Bool :=
  match decide (x ≥ (IntKind.i64.wrap (0 - m))) with
  | true => (match decide (x ≤ m) with
  | true => (match decide (y ≥ (IntKind.i64.wrap (0 - m))) with
  | true => ((decide (y ≤ m)))
  | false => (false))
  | false => (false))
  | false => (false)
theorem Tryz.run46 (x y m : Int)  : Runs Tryz.ir 46 [.agg [.int .i64 x, .int .i64 y], .int .i64 m] (.bool (near10 x y m)) := by
  unfold near10
  cases c1 : (decide (x ≥ (IntKind.i64.wrap (0 - m))))
  · exact Runs.script (r := .bool false) (ps := [(decide (x ≥ (IntKind.i64.wrap (0 - m)))) = false, false = false, false = false]) TWs2_holds rfl 300 rfl [.b false, .b false, .b false] (by kernel_rfl) ⟨c1, rfl, rfl, trivial⟩
  · cases c2 : (decide (x ≤ m))
    · exact Runs.script (r := .bool false) (ps := [(decide (x ≥ (IntKind.i64.wrap (0 - m)))) = true, (decide (x ≤ m)) = false, false = false]) TWs2_holds rfl 300 rfl [.b true, .b false, .b false] (by kernel_rfl) ⟨c1, c2, rfl, trivial⟩
    · cases c3 : (decide (y ≥ (IntKind.i64.wrap (0 - m))))
      · exact Runs.script (r := .bool false) (ps := [(decide (x ≥ (IntKind.i64.wrap (0 - m)))) = true, (decide (x ≤ m)) = true, (decide (y ≥ (IntKind.i64.wrap (0 - m)))) = false]) TWs2_holds rfl 300 rfl [.b true, .b true, .b false] (by kernel_rfl) ⟨c1, c2, c3, trivial⟩
      · exact Runs.script (r := .bool (decide (y ≤ m))) (ps := [(decide (x ≥ (IntKind.i64.wrap (0 - m)))) = true, (decide (x ≤ m)) = true, (decide (y ≥ (IntKind.i64.wrap (0 - m)))) = true]) TWs2_holds rfl 300 rfl [.b true, .b true, .b true] (by kernel_rfl) ⟨c1, c2, c3, trivial⟩

def g46 : List AV → Option (AV × List Prop)
  | [.agg [.int .i64 x, .int .i64 y], .int .i64 m] => some (.bool (near10 x y m), [])
  | _ => none
def TWs3 : Table := (46, g46) :: TWs2
theorem TWs3_holds : THolds Tryz.ir TWs3 := THolds.cons TWs2_holds (by
  intro args r ps h hp
  unfold g46 at h
  split at h
  · cases h; exact Tryz.run46 _ _ _ 
  · cases h)

def valid10 (p1 p2 v1 v2 h1 h2 : Int) : Bool :=
  match near10 p1 p2 8388608 with
  | true => (match near10 v1 v2 262144 with
  | true => ((near10 h1 h2 4096))
  | false => (false))
  | false => (false)
theorem Tryz.run16 (p1 p2 v1 v2 h1 h2 : Int)  : Runs Tryz.ir 16 [.agg [.int .i64 p1, .int .i64 p2, .int .i64 v1, .int .i64 v2, .int .i64 h1, .int .i64 h2]] (.bool (valid10 p1 p2 v1 v2 h1 h2)) := by
  unfold valid10
  cases c1 : (near10 p1 p2 8388608)
  · exact Runs.script (r := .bool false) (ps := [(near10 p1 p2 8388608) = false, false = false]) TWs3_holds rfl 300 rfl [.b false, .b false] (by kernel_rfl) ⟨c1, rfl, trivial⟩
  · cases c2 : (near10 v1 v2 262144)
    · exact Runs.script (r := .bool false) (ps := [(near10 p1 p2 8388608) = true, (near10 v1 v2 262144) = false]) TWs3_holds rfl 300 rfl [.b true, .b false] (by kernel_rfl) ⟨c1, c2, trivial⟩
    · exact Runs.script (r := .bool (near10 h1 h2 4096)) (ps := [(near10 p1 p2 8388608) = true, (near10 v1 v2 262144) = true]) TWs3_holds rfl 300 rfl [.b true, .b true] (by kernel_rfl) ⟨c1, c2, trivial⟩

def g16 : List AV → Option (AV × List Prop)
  | [.agg [.int .i64 p1, .int .i64 p2, .int .i64 v1, .int .i64 v2, .int .i64 h1, .int .i64 h2]] => some (.bool (valid10 p1 p2 v1 v2 h1 h2), [])
  | _ => none
def TWs4 : Table := (16, g16) :: TWs3
theorem TWs4_holds : THolds Tryz.ir TWs4 := THolds.cons TWs3_holds (by
  intro args r ps h hp
  unfold g16 at h
  split at h
  · cases h; exact Tryz.run16 _ _ _ _ _ _ 
  · cases h)

theorem Tryz.run93 (xs : List Int) (ts : List Rn) (n1 : Runs Tryz.ir 50 [.sl xs.length (li xs)] (.fresh 2 ts.length (pc ts))) : Runs Tryz.ir 93 [.sl xs.length (li xs)] (.fresh 2 ts.length (pc ts)) :=
  Runs.script (r := .fresh 2 ts.length (pc ts)) (ps := [Runs Tryz.ir 50 [.sl xs.length (li xs)] (.fresh 2 ts.length (pc ts))]) TPA_holds rfl 400 rfl [.r (.fresh 2 ts.length (pc ts))] (by kernel_rfl) ⟨n1, trivial⟩

theorem Tryz.run69 (p1 p2 v1 v2 h1 h2 : Int) (xs ys : List Rn) (n1 : Runs Tryz.ir 53 [.agg [.int .i64 p1, .int .i64 p2, .int .i64 v1, .int .i64 v2, .int .i64 h1, .int .i64 h2]] (.bool true))
    (n2 : Runs Tryz.ir 93 [.sl 3 [.int .i64 p1, .int .i64 v1, .int .i64 h1]] (.fresh 2 xs.length (pc xs)))
    (n3 : Runs Tryz.ir 93 [.sl 3 [.int .i64 p2, .int .i64 v2, .int .i64 h2]] (.fresh 2 ys.length (pc ys))) : Runs Tryz.ir 69 [.agg [.int .i64 p1, .int .i64 p2, .int .i64 v1, .int .i64 v2, .int .i64 h1, .int .i64 h2]] (.tup [.sl xs.length (pc xs), .sl ys.length (pc ys)]) :=
  Runs.script (r := .tup [.sl xs.length (pc xs), .sl ys.length (pc ys)]) (ps := [Runs Tryz.ir 53 [.agg [.int .i64 p1, .int .i64 p2, .int .i64 v1, .int .i64 v2, .int .i64 h1, .int .i64 h2]] (.bool true), false = false, Runs Tryz.ir 93 [.sl 3 [.int .i64 p1, .int .i64 v1, .int .i64 h1]] (.fresh 2 xs.length (pc xs)), Runs Tryz.ir 93 [.sl 3 [.int .i64 p2, .int .i64 v2, .int .i64 h2]] (.fresh 2 ys.length (pc ys))]) TPA_holds rfl 400 rfl [.r (.bool true), .b false, .r (.fresh 2 xs.length (pc xs)), .r (.fresh 2 ys.length (pc ys))] (by kernel_rfl) ⟨n1, rfl, n2, n3, trivial⟩

theorem Tryz.run47 (p1 p2 v1 v2 h1 h2 z1 z2 : Int) (xs ys cx cy us vs : List Rn) (n1 : Runs Tryz.ir 69 [.agg [.int .i64 p1, .int .i64 p2, .int .i64 v1, .int .i64 v2, .int .i64 h1, .int .i64 h2]] (.tup [.sl xs.length (pc xs), .sl ys.length (pc ys)]))
    (n2 : Runs Tryz.ir 50 [.sl 1 [.int .i64 z1]] (.fresh 2 cx.length (pc cx)))
    (n3 : Runs Tryz.ir 51 [.sl xs.length (pc xs), .sl cx.length (pc cx)] (.fresh 2 us.length (pc us)))
    (n4 : Runs Tryz.ir 50 [.sl 1 [.int .i64 z2]] (.fresh 2 cy.length (pc cy)))
    (n5 : Runs Tryz.ir 51 [.sl ys.length (pc ys), .sl cy.length (pc cy)] (.fresh 2 vs.length (pc vs))) : Runs Tryz.ir 47 [.agg [.int .i64 p1, .int .i64 p2, .int .i64 v1, .int .i64 v2, .int .i64 h1, .int .i64 h2], .agg [.int .i64 z1, .int .i64 z2]] (.tup [.sl us.length (pc us), .sl vs.length (pc vs)]) :=
  Runs.script (r := .tup [.sl us.length (pc us), .sl vs.length (pc vs)]) (ps := [Runs Tryz.ir 69 [.agg [.int .i64 p1, .int .i64 p2, .int .i64 v1, .int .i64 v2, .int .i64 h1, .int .i64 h2]] (.tup [.sl xs.length (pc xs), .sl ys.length (pc ys)]), Runs Tryz.ir 50 [.sl 1 [.int .i64 z1]] (.fresh 2 cx.length (pc cx)), Runs Tryz.ir 51 [.sl xs.length (pc xs), .sl cx.length (pc cx)] (.fresh 2 us.length (pc us)), Runs Tryz.ir 50 [.sl 1 [.int .i64 z2]] (.fresh 2 cy.length (pc cy)), Runs Tryz.ir 51 [.sl ys.length (pc ys), .sl cy.length (pc cy)] (.fresh 2 vs.length (pc vs))]) TPA_holds rfl 400 rfl [.r (.tup [.sl xs.length (pc xs), .sl ys.length (pc ys)]), .r (.fresh 2 cx.length (pc cx)), .r (.fresh 2 us.length (pc us)), .r (.fresh 2 cy.length (pc cy)), .r (.fresh 2 vs.length (pc vs))] (by kernel_rfl) ⟨n1, n2, n3, n4, n5, trivial⟩

theorem Tryz.run77 (xs ys us vs ws : List Rn) (n1 : Runs Tryz.ir 49 [.sl xs.length (pc xs), .sl xs.length (pc xs)] (.fresh 2 us.length (pc us)))
    (n2 : Runs Tryz.ir 49 [.sl ys.length (pc ys), .sl ys.length (pc ys)] (.fresh 2 vs.length (pc vs)))
    (n3 : Runs Tryz.ir 70 [.sl us.length (pc us), .sl vs.length (pc vs)] (.fresh 2 ws.length (pc ws))) : Runs Tryz.ir 77 [.sl xs.length (pc xs), .sl ys.length (pc ys)] (.fresh 2 ws.length (pc ws)) :=
  Runs.script (r := .fresh 2 ws.length (pc ws)) (ps := [Runs Tryz.ir 49 [.sl xs.length (pc xs), .sl xs.length (pc xs)] (.fresh 2 us.length (pc us)), Runs Tryz.ir 49 [.sl ys.length (pc ys), .sl ys.length (pc ys)] (.fresh 2 vs.length (pc vs)), Runs Tryz.ir 70 [.sl us.length (pc us), .sl vs.length (pc vs)] (.fresh 2 ws.length (pc ws))]) TPA_holds rfl 400 rfl [.r (.fresh 2 us.length (pc us)), .r (.fresh 2 vs.length (pc vs)), .r (.fresh 2 ws.length (pc ws))] (by kernel_rfl) ⟨n1, n2, n3, trivial⟩

theorem Tryz.run48 (xs ys as1 bs us vs ws : List Rn) (a b : Int) (n1 : Runs Tryz.ir 50 [.sl 1 [.int .i64 a]] (.fresh 2 as1.length (pc as1)))
    (n2 : Runs Tryz.ir 49 [.sl as1.length (pc as1), .sl xs.length (pc xs)] (.fresh 2 us.length (pc us)))
    (n3 : Runs Tryz.ir 50 [.sl 1 [.int .i64 b]] (.fresh 2 bs.length (pc bs)))
    (n4 : Runs Tryz.ir 49 [.sl bs.length (pc bs), .sl ys.length (pc ys)] (.fresh 2 vs.length (pc vs)))
    (n5 : Runs Tryz.ir 70 [.sl us.length (pc us), .sl vs.length (pc vs)] (.fresh 2 ws.length (pc ws))) : Runs Tryz.ir 48 [.int .i64 a, .sl xs.length (pc xs), .int .i64 b, .sl ys.length (pc ys)] (.fresh 2 ws.length (pc ws)) :=
  Runs.script (r := .fresh 2 ws.length (pc ws)) (ps := [Runs Tryz.ir 50 [.sl 1 [.int .i64 a]] (.fresh 2 as1.length (pc as1)), Runs Tryz.ir 49 [.sl as1.length (pc as1), .sl xs.length (pc xs)] (.fresh 2 us.length (pc us)), Runs Tryz.ir 50 [.sl 1 [.int .i64 b]] (.fresh 2 bs.length (pc bs)), Runs Tryz.ir 49 [.sl bs.length (pc bs), .sl ys.length (pc ys)] (.fresh 2 vs.length (pc vs)), Runs Tryz.ir 70 [.sl us.length (pc us), .sl vs.length (pc vs)] (.fresh 2 ws.length (pc ws))]) TPA_holds rfl 400 rfl [.r (.fresh 2 as1.length (pc as1)), .r (.fresh 2 us.length (pc us)), .r (.fresh 2 bs.length (pc bs)), .r (.fresh 2 vs.length (pc vs)), .r (.fresh 2 ws.length (pc ws))] (by kernel_rfl) ⟨n1, n2, n3, n4, n5, trivial⟩

theorem Tryz.run52 (p1 p2 v1 v2 h1 h2 z1 z2 reach : Int) (xs ys rs us ws : List Rn) (n1 : Runs Tryz.ir 50 [.sl 1 [.int .i64 (IntKind.i64.wrap (reach * reach))]] (.fresh 2 rs.length (pc rs)))
    (n2 : Runs Tryz.ir 47 [.agg [.int .i64 p1, .int .i64 p2, .int .i64 v1, .int .i64 v2, .int .i64 h1, .int .i64 h2], .agg [.int .i64 z1, .int .i64 z2]] (.tup [.sl xs.length (pc xs), .sl ys.length (pc ys)]))
    (n3 : Runs Tryz.ir 77 [.sl xs.length (pc xs), .sl ys.length (pc ys)] (.fresh 2 us.length (pc us)))
    (n4 : Runs Tryz.ir 51 [.sl rs.length (pc rs), .sl us.length (pc us)] (.fresh 2 ws.length (pc ws))) : Runs Tryz.ir 52 [.agg [.int .i64 p1, .int .i64 p2, .int .i64 v1, .int .i64 v2, .int .i64 h1, .int .i64 h2], .agg [.int .i64 z1, .int .i64 z2], .int .i64 reach] (.fresh 2 ws.length (pc ws)) :=
  Runs.script (r := .fresh 2 ws.length (pc ws)) (ps := [Runs Tryz.ir 50 [.sl 1 [.int .i64 (IntKind.i64.wrap (reach * reach))]] (.fresh 2 rs.length (pc rs)), Runs Tryz.ir 47 [.agg [.int .i64 p1, .int .i64 p2, .int .i64 v1, .int .i64 v2, .int .i64 h1, .int .i64 h2], .agg [.int .i64 z1, .int .i64 z2]] (.tup [.sl xs.length (pc xs), .sl ys.length (pc ys)]), Runs Tryz.ir 77 [.sl xs.length (pc xs), .sl ys.length (pc ys)] (.fresh 2 us.length (pc us)), Runs Tryz.ir 51 [.sl rs.length (pc rs), .sl us.length (pc us)] (.fresh 2 ws.length (pc ws))]) TPA_holds rfl 400 rfl [.r (.fresh 2 rs.length (pc rs)), .r (.tup [.sl xs.length (pc xs), .sl ys.length (pc ys)]), .r (.fresh 2 us.length (pc us)), .r (.fresh 2 ws.length (pc ws))] (by kernel_rfl) ⟨n1, n2, n3, n4, trivial⟩

theorem Tryz.run20 (p1 p2 v1 v2 h1 h2 z1 z2 reach : Int) (ds : List Rn) (c1 : (decide (reach < 1)) = false)
    (c2 : (decide (reach > 524288)) = false)
    (n1 : Runs Tryz.ir 53 [.agg [.int .i64 p1, .int .i64 p2, .int .i64 v1, .int .i64 v2, .int .i64 h1, .int .i64 h2]] (.bool true))
    (n2 : Runs Tryz.ir 27 [.int .i64 1048576, .sl 1 [.int .i64 z1, .int .i64 z2]] (.bool true))
    (n3 : Runs Tryz.ir 52 [.agg [.int .i64 p1, .int .i64 p2, .int .i64 v1, .int .i64 v2, .int .i64 h1, .int .i64 h2], .agg [.int .i64 z1, .int .i64 z2], .int .i64 reach] (.fresh 2 ds.length (pc ds))) : Runs Tryz.ir 20 [.agg [.int .i64 p1, .int .i64 p2, .int .i64 v1, .int .i64 v2, .int .i64 h1, .int .i64 h2], .agg [.int .i64 z1, .int .i64 z2], .int .i64 reach] (.fresh 1 1 [.sl 1 [.sl ds.length (pc ds)]]) :=
  Runs.script (r := .fresh 1 1 [.sl 1 [.sl ds.length (pc ds)]]) (ps := [Runs Tryz.ir 53 [.agg [.int .i64 p1, .int .i64 p2, .int .i64 v1, .int .i64 v2, .int .i64 h1, .int .i64 h2]] (.bool true), false = false, Runs Tryz.ir 27 [.int .i64 1048576, .sl 1 [.int .i64 z1, .int .i64 z2]] (.bool true), false = false, (decide (reach < 1)) = false, (decide (reach > 524288)) = false, Runs Tryz.ir 52 [.agg [.int .i64 p1, .int .i64 p2, .int .i64 v1, .int .i64 v2, .int .i64 h1, .int .i64 h2], .agg [.int .i64 z1, .int .i64 z2], .int .i64 reach] (.fresh 2 ds.length (pc ds))]) TPA_holds rfl 400 rfl [.r (.bool true), .b false, .r (.bool true), .b false, .b false, .b false, .r (.fresh 2 ds.length (pc ds))] (by kernel_rfl) ⟨n1, rfl, n2, rfl, c1, c2, n3, trivial⟩

theorem Tryz.run19_1 (p1 p2 v1 v2 h1 h2 a1 a2 b1 b2 reach : Int) (ds : List Rn) (c1 : (a1 == b1 && (a2 == b2 && true)) = true)
    (n1 : Runs Tryz.ir 20 [.agg [.int .i64 p1, .int .i64 p2, .int .i64 v1, .int .i64 v2, .int .i64 h1, .int .i64 h2], .agg [.int .i64 a1, .int .i64 a2], .int .i64 reach] (.fresh 1 1 [.sl 1 [.sl ds.length (pc ds)]]))
    (n2 : Runs Tryz.ir 27 [.int .i64 1048576, .sl 1 [.int .i64 b1, .int .i64 b2]] (.bool true)) : Runs Tryz.ir 19 [.agg [.int .i64 p1, .int .i64 p2, .int .i64 v1, .int .i64 v2, .int .i64 h1, .int .i64 h2], .agg [.int .i64 a1, .int .i64 a2], .agg [.int .i64 b1, .int .i64 b2], .int .i64 reach] (.fresh 1 1 [.sl 1 [.sl ds.length (pc ds)]]) :=
  Runs.script (r := .fresh 1 1 [.sl 1 [.sl ds.length (pc ds)]]) (ps := [Runs Tryz.ir 20 [.agg [.int .i64 p1, .int .i64 p2, .int .i64 v1, .int .i64 v2, .int .i64 h1, .int .i64 h2], .agg [.int .i64 a1, .int .i64 a2], .int .i64 reach] (.fresh 1 1 [.sl 1 [.sl ds.length (pc ds)]]), false = false, Runs Tryz.ir 27 [.int .i64 1048576, .sl 1 [.int .i64 b1, .int .i64 b2]] (.bool true), false = false, (a1 == b1 && (a2 == b2 && true)) = true]) TPA_holds rfl 400 rfl [.r (.fresh 1 1 [.sl 1 [.sl ds.length (pc ds)]]), .b false, .r (.bool true), .b false, .b true] (by kernel_rfl) ⟨n1, rfl, n2, rfl, c1, trivial⟩

theorem Tryz.run19_2 (p1 p2 v1 v2 h1 h2 a1 a2 b1 b2 d1 d2 dd reach : Int) (ds es xs ys al ac di ri lm_ sq m1 m2 : List Rn) (c1 : (a1 == b1 && (a2 == b2 && true)) = false)
    (n1 : Runs Tryz.ir 20 [.agg [.int .i64 p1, .int .i64 p2, .int .i64 v1, .int .i64 v2, .int .i64 h1, .int .i64 h2], .agg [.int .i64 a1, .int .i64 a2], .int .i64 reach] (.fresh 1 1 [.sl 1 [.sl ds.length (pc ds)]]))
    (n2 : Runs Tryz.ir 27 [.int .i64 1048576, .sl 1 [.int .i64 b1, .int .i64 b2]] (.bool true))
    (n3 : Runs Tryz.ir 28 [.agg [.int .i64 b1, .int .i64 b2], .agg [.int .i64 a1, .int .i64 a2]] (.agg [.int .i64 d1, .int .i64 d2]))
    (n4 : Runs Tryz.ir 47 [.agg [.int .i64 p1, .int .i64 p2, .int .i64 v1, .int .i64 v2, .int .i64 h1, .int .i64 h2], .agg [.int .i64 a1, .int .i64 a2]] (.tup [.sl xs.length (pc xs), .sl ys.length (pc ys)]))
    (n5 : Runs Tryz.ir 48 [.int .i64 d1, .sl xs.length (pc xs), .int .i64 d2, .sl ys.length (pc ys)] (.fresh 2 al.length (pc al)))
    (n6 : Runs Tryz.ir 48 [.int .i64 d1, .sl ys.length (pc ys), .int .i64 (IntKind.i64.wrap (0 - d2)), .sl xs.length (pc xs)] (.fresh 2 ac.length (pc ac)))
    (n7 : Runs Tryz.ir 50 [.sl 1 [.int .i64 (IntKind.i64.wrap (reach * reach))]] (.fresh 2 ri.length (pc ri)))
    (n8 : Runs Tryz.ir 24 [.agg [.int .i64 d1, .int .i64 d2], .agg [.int .i64 d1, .int .i64 d2]] (.int .i64 dd))
    (n9 : Runs Tryz.ir 50 [.sl 1 [.int .i64 dd]] (.fresh 2 di.length (pc di)))
    (n10 : Runs Tryz.ir 49 [.sl ri.length (pc ri), .sl di.length (pc di)] (.fresh 2 lm_.length (pc lm_)))
    (n11 : Runs Tryz.ir 51 [.sl di.length (pc di), .sl al.length (pc al)] (.fresh 2 m1.length (pc m1)))
    (n12 : Runs Tryz.ir 49 [.sl ac.length (pc ac), .sl ac.length (pc ac)] (.fresh 2 sq.length (pc sq)))
    (n13 : Runs Tryz.ir 51 [.sl lm_.length (pc lm_), .sl sq.length (pc sq)] (.fresh 2 m2.length (pc m2)))
    (n14 : Runs Tryz.ir 52 [.agg [.int .i64 p1, .int .i64 p2, .int .i64 v1, .int .i64 v2, .int .i64 h1, .int .i64 h2], .agg [.int .i64 b1, .int .i64 b2], .int .i64 reach] (.fresh 2 es.length (pc es))) : Runs Tryz.ir 19 [.agg [.int .i64 p1, .int .i64 p2, .int .i64 v1, .int .i64 v2, .int .i64 h1, .int .i64 h2], .agg [.int .i64 a1, .int .i64 a2], .agg [.int .i64 b1, .int .i64 b2], .int .i64 reach] (.fresh 1 3 [.sl 1 [.sl ds.length (pc ds)], .sl 1 [.sl es.length (pc es)], .sl 3 [.sl al.length (pc al), .sl m1.length (pc m1), .sl m2.length (pc m2)]]) :=
  Runs.script (r := .fresh 1 3 [.sl 1 [.sl ds.length (pc ds)], .sl 1 [.sl es.length (pc es)], .sl 3 [.sl al.length (pc al), .sl m1.length (pc m1), .sl m2.length (pc m2)]]) (ps := [Runs Tryz.ir 20 [.agg [.int .i64 p1, .int .i64 p2, .int .i64 v1, .int .i64 v2, .int .i64 h1, .int .i64 h2], .agg [.int .i64 a1, .int .i64 a2], .int .i64 reach] (.fresh 1 1 [.sl 1 [.sl ds.length (pc ds)]]), false = false, Runs Tryz.ir 27 [.int .i64 1048576, .sl 1 [.int .i64 b1, .int .i64 b2]] (.bool true), false = false, (a1 == b1 && (a2 == b2 && true)) = false, Runs Tryz.ir 28 [.agg [.int .i64 b1, .int .i64 b2], .agg [.int .i64 a1, .int .i64 a2]] (.agg [.int .i64 d1, .int .i64 d2]), Runs Tryz.ir 47 [.agg [.int .i64 p1, .int .i64 p2, .int .i64 v1, .int .i64 v2, .int .i64 h1, .int .i64 h2], .agg [.int .i64 a1, .int .i64 a2]] (.tup [.sl xs.length (pc xs), .sl ys.length (pc ys)]), Runs Tryz.ir 48 [.int .i64 d1, .sl xs.length (pc xs), .int .i64 d2, .sl ys.length (pc ys)] (.fresh 2 al.length (pc al)), Runs Tryz.ir 48 [.int .i64 d1, .sl ys.length (pc ys), .int .i64 (IntKind.i64.wrap (0 - d2)), .sl xs.length (pc xs)] (.fresh 2 ac.length (pc ac)), Runs Tryz.ir 50 [.sl 1 [.int .i64 (IntKind.i64.wrap (reach * reach))]] (.fresh 2 ri.length (pc ri)), Runs Tryz.ir 24 [.agg [.int .i64 d1, .int .i64 d2], .agg [.int .i64 d1, .int .i64 d2]] (.int .i64 dd), Runs Tryz.ir 50 [.sl 1 [.int .i64 dd]] (.fresh 2 di.length (pc di)), Runs Tryz.ir 49 [.sl ri.length (pc ri), .sl di.length (pc di)] (.fresh 2 lm_.length (pc lm_)), Runs Tryz.ir 24 [.agg [.int .i64 d1, .int .i64 d2], .agg [.int .i64 d1, .int .i64 d2]] (.int .i64 dd), Runs Tryz.ir 50 [.sl 1 [.int .i64 dd]] (.fresh 2 di.length (pc di)), Runs Tryz.ir 51 [.sl di.length (pc di), .sl al.length (pc al)] (.fresh 2 m1.length (pc m1)), Runs Tryz.ir 49 [.sl ac.length (pc ac), .sl ac.length (pc ac)] (.fresh 2 sq.length (pc sq)), Runs Tryz.ir 51 [.sl lm_.length (pc lm_), .sl sq.length (pc sq)] (.fresh 2 m2.length (pc m2)), Runs Tryz.ir 52 [.agg [.int .i64 p1, .int .i64 p2, .int .i64 v1, .int .i64 v2, .int .i64 h1, .int .i64 h2], .agg [.int .i64 b1, .int .i64 b2], .int .i64 reach] (.fresh 2 es.length (pc es)), List.length ([.sl 1 [.sl es.length (pc es)], .sl 3 [.sl al.length (pc al), .sl m1.length (pc m1), .sl m2.length (pc m2)]] : List AV) = 2 * 1, 1 + 2 ≤ 1048576]) TPA_holds rfl 400 rfl [.r (.fresh 1 1 [.sl 1 [.sl ds.length (pc ds)]]), .b false, .r (.bool true), .b false, .b false, .r (.agg [.int .i64 d1, .int .i64 d2]), .r (.tup [.sl xs.length (pc xs), .sl ys.length (pc ys)]), .r (.fresh 2 al.length (pc al)), .r (.fresh 2 ac.length (pc ac)), .r (.fresh 2 ri.length (pc ri)), .r (.int .i64 dd), .r (.fresh 2 di.length (pc di)), .r (.fresh 2 lm_.length (pc lm_)), .r (.int .i64 dd), .r (.fresh 2 di.length (pc di)), .r (.fresh 2 m1.length (pc m1)), .r (.fresh 2 sq.length (pc sq)), .r (.fresh 2 m2.length (pc m2)), .r (.fresh 2 es.length (pc es))] (by kernel_rfl) ⟨n1, rfl, n2, rfl, c1, n3, n4, n5, n6, n7, n8, n9, n10, n8, n9, n11, n12, n13, n14, rfl, (by decide), trivial⟩

theorem Tryz.run18 (p1 p2 v1 v2 h1 h2 : Int) (n1 : Runs Tryz.ir 16 [.agg [.int .i64 p1, .int .i64 p2, .int .i64 v1, .int .i64 v2, .int .i64 h1, .int .i64 h2]] (.bool true)) : Runs Tryz.ir 18 [.agg [.int .i64 p1, .int .i64 p2, .int .i64 v1, .int .i64 v2, .int .i64 h1, .int .i64 h2]] (.tup [.agg [.int .i64 (IntKind.i64.wrap ((IntKind.i64.wrap (p1 + v1)) + h1)), .int .i64 (IntKind.i64.wrap ((IntKind.i64.wrap (p2 + v2)) + h2))], .agg [.int .i64 (IntKind.i64.wrap (v1 + (IntKind.i64.wrap (2 * h1)))), .int .i64 (IntKind.i64.wrap (v2 + (IntKind.i64.wrap (2 * h2))))]]) :=
  Runs.script (r := .tup [.agg [.int .i64 (IntKind.i64.wrap ((IntKind.i64.wrap (p1 + v1)) + h1)), .int .i64 (IntKind.i64.wrap ((IntKind.i64.wrap (p2 + v2)) + h2))], .agg [.int .i64 (IntKind.i64.wrap (v1 + (IntKind.i64.wrap (2 * h1)))), .int .i64 (IntKind.i64.wrap (v2 + (IntKind.i64.wrap (2 * h2))))]]) (ps := [Runs Tryz.ir 16 [.agg [.int .i64 p1, .int .i64 p2, .int .i64 v1, .int .i64 v2, .int .i64 h1, .int .i64 h2]] (.bool true), false = false]) TPA_holds rfl 400 rfl [.r (.bool true), .b false] (by kernel_rfl) ⟨n1, rfl, trivial⟩

theorem Tryz.run4_s (p1 p2 v1 v2 h1 h2 reach : Int) (n : Nat) (cs : List AV) (c1 : (decide (((n : Nat) : Int) < 2)) = true)
    (n1 : Runs Tryz.ir 7 [] (.bool true)) : Runs Tryz.ir 4 [.agg [.int .i64 p1, .int .i64 p2, .int .i64 v1, .int .i64 v2, .int .i64 h1, .int .i64 h2], .sl n cs, .int .i64 reach] (.bool true) :=
  Runs.script (r := .bool true) (ps := [Runs Tryz.ir 7 [] (.bool true), false = false, (decide (((n : Nat) : Int) < 2)) = true, true = true, true = true, true = true, true = true, true = true, true = true, Runs Tryz.ir 7 [] (.bool true)]) TPA_holds rfl 400 rfl [.r (.bool true), .b false, .b true, .b true, .b true, .b true, .b true, .b true, .b true, .r (.bool true)] (by kernel_rfl) ⟨n1, rfl, c1, rfl, rfl, rfl, rfl, rfl, rfl, n1, trivial⟩

theorem Tryz.run4_m_1 (p1 p2 v1 v2 h1 h2 a1 a2 b1 b2 reach : Int) (n : Nat) (cs : List AV) (va : Bool) (c1 : (decide (((n : Nat) : Int) < 2)) = false)
    (c6 : (va) = true)
    (c7 : (decide (reach < 1)) = true)
    (n1 : Runs Tryz.ir 7 [] (.bool true))
    (n2 : Runs Tryz.ir 16 [.agg [.int .i64 p1, .int .i64 p2, .int .i64 v1, .int .i64 v2, .int .i64 h1, .int .i64 h2]] (.bool va)) : Runs Tryz.ir 4 [.agg [.int .i64 p1, .int .i64 p2, .int .i64 v1, .int .i64 v2, .int .i64 h1, .int .i64 h2], .sl n (.int .i64 a1 :: .int .i64 a2 :: .int .i64 b1 :: .int .i64 b2 :: cs), .int .i64 reach] (.bool true) :=
  Runs.script (r := .bool true) (ps := [Runs Tryz.ir 7 [] (.bool true), false = false, (decide (((n : Nat) : Int) < 2)) = false, Runs Tryz.ir 16 [.agg [.int .i64 p1, .int .i64 p2, .int .i64 v1, .int .i64 v2, .int .i64 h1, .int .i64 h2]] (.bool va), (!va) = false, (decide (reach < 1)) = true, true = true, true = true, true = true, true = true, Runs Tryz.ir 7 [] (.bool true)]) TPA_holds rfl 400 rfl [.r (.bool true), .b false, .b false, .r (.bool va), .b false, .b true, .b true, .b true, .b true, .b true, .r (.bool true)] (by kernel_rfl) ⟨n1, rfl, c1, n2, (by rw [c6]; rfl), c7, rfl, rfl, rfl, rfl, n1, trivial⟩

theorem Tryz.run4_m_2 (p1 p2 v1 v2 h1 h2 a1 a2 b1 b2 reach : Int) (n : Nat) (cs : List AV) (va : Bool) (c1 : (decide (((n : Nat) : Int) < 2)) = false)
    (c6 : (va) = true)
    (c7 : (decide (reach < 1)) = false)
    (c8 : (decide (reach > 524288)) = true)
    (n1 : Runs Tryz.ir 7 [] (.bool true))
    (n2 : Runs Tryz.ir 16 [.agg [.int .i64 p1, .int .i64 p2, .int .i64 v1, .int .i64 v2, .int .i64 h1, .int .i64 h2]] (.bool va)) : Runs Tryz.ir 4 [.agg [.int .i64 p1, .int .i64 p2, .int .i64 v1, .int .i64 v2, .int .i64 h1, .int .i64 h2], .sl n (.int .i64 a1 :: .int .i64 a2 :: .int .i64 b1 :: .int .i64 b2 :: cs), .int .i64 reach] (.bool true) :=
  Runs.script (r := .bool true) (ps := [Runs Tryz.ir 7 [] (.bool true), false = false, (decide (((n : Nat) : Int) < 2)) = false, Runs Tryz.ir 16 [.agg [.int .i64 p1, .int .i64 p2, .int .i64 v1, .int .i64 v2, .int .i64 h1, .int .i64 h2]] (.bool va), (!va) = false, (decide (reach < 1)) = false, (decide (reach > 524288)) = true, true = true, true = true, true = true, Runs Tryz.ir 7 [] (.bool true)]) TPA_holds rfl 400 rfl [.r (.bool true), .b false, .b false, .r (.bool va), .b false, .b false, .b true, .b true, .b true, .b true, .r (.bool true)] (by kernel_rfl) ⟨n1, rfl, c1, n2, (by rw [c6]; rfl), c7, c8, rfl, rfl, rfl, n1, trivial⟩

theorem Tryz.run4_m_3 (p1 p2 v1 v2 h1 h2 a1 a2 b1 b2 e1 e2 f1 f2 reach : Int) (n : Nat) (cs : List AV) (va na nb np ne x0 x1 y0 y1 : Bool) (cl dl : PPP) (c1 : (decide (((n : Nat) : Int) < 2)) = false)
    (c2 : (x0 == x0) = true)
    (c3 : (y0 == y0) = true)
    (c4 : (x1 == x1) = true)
    (c6 : (va) = true)
    (c7 : (decide (reach < 1)) = false)
    (c8 : (decide (reach > 524288)) = false)
    (c9 : (na) = true)
    (c10 : (nb) = true)
    (c11 : (np) = true)
    (c12 : (ne) = true)
    (n1 : 0 ≤ (0 : Int) ∧ (0 : Int) < ((n : Nat) : Int))
    (n2 : 0 ≤ (1 : Int) ∧ (1 : Int) < ((n : Nat) : Int))
    (n3 : Runs Tryz.ir 7 [] (.bool true))
    (n4 : Runs Tryz.ir 16 [.agg [.int .i64 p1, .int .i64 p2, .int .i64 v1, .int .i64 v2, .int .i64 h1, .int .i64 h2]] (.bool va))
    (n5 : Runs Tryz.ir 17 [.agg [.int .i64 a1, .int .i64 a2]] (.bool na))
    (n6 : Runs Tryz.ir 17 [.agg [.int .i64 b1, .int .i64 b2]] (.bool nb))
    (n7 : Runs Tryz.ir 17 [.agg [.int .i64 p1, .int .i64 p2]] (.bool np))
    (n8 : Runs Tryz.ir 18 [.agg [.int .i64 p1, .int .i64 p2, .int .i64 v1, .int .i64 v2, .int .i64 h1, .int .i64 h2]] (.tup [.agg [.int .i64 e1, .int .i64 e2], .agg [.int .i64 f1, .int .i64 f2]]))
    (n9 : Runs Tryz.ir 19 [.agg [.int .i64 p1, .int .i64 p2, .int .i64 v1, .int .i64 v2, .int .i64 h1, .int .i64 h2], .agg [.int .i64 a1, .int .i64 a2], .agg [.int .i64 b1, .int .i64 b2], .int .i64 reach] (.fresh 1 cl.length (ppp cl)))
    (n10 : Runs Tryz.ir 20 [.agg [.int .i64 p1, .int .i64 p2, .int .i64 v1, .int .i64 v2, .int .i64 h1, .int .i64 h2], .agg [.int .i64 b1, .int .i64 b2], .int .i64 reach] (.fresh 1 dl.length (ppp dl)))
    (n11 : Runs Tryz.ir 21 [.sl cl.length (ppp cl), .int .i64 0] (.bool x0))
    (n12 : Runs Tryz.ir 10 [.agg [.int .i64 p1, .int .i64 p2], .agg [.int .i64 a1, .int .i64 a2], .agg [.int .i64 b1, .int .i64 b2], .int .i64 reach] (.bool x0))
    (n13 : Runs Tryz.ir 21 [.sl dl.length (ppp dl), .int .i64 0] (.bool y0))
    (n14 : Runs Tryz.ir 8 [.agg [.int .i64 p1, .int .i64 p2], .agg [.int .i64 b1, .int .i64 b2], .int .i64 reach] (.bool y0))
    (n15 : Runs Tryz.ir 17 [.agg [.int .i64 e1, .int .i64 e2]] (.bool ne))
    (n16 : Runs Tryz.ir 21 [.sl cl.length (ppp cl), .int .i64 16] (.bool x1))
    (n17 : Runs Tryz.ir 10 [.agg [.int .i64 e1, .int .i64 e2], .agg [.int .i64 a1, .int .i64 a2], .agg [.int .i64 b1, .int .i64 b2], .int .i64 reach] (.bool x1))
    (n18 : Runs Tryz.ir 21 [.sl dl.length (ppp dl), .int .i64 16] (.bool y1))
    (n19 : Runs Tryz.ir 8 [.agg [.int .i64 e1, .int .i64 e2], .agg [.int .i64 b1, .int .i64 b2], .int .i64 reach] (.bool y1)) : Runs Tryz.ir 4 [.agg [.int .i64 p1, .int .i64 p2, .int .i64 v1, .int .i64 v2, .int .i64 h1, .int .i64 h2], .sl n (.int .i64 a1 :: .int .i64 a2 :: .int .i64 b1 :: .int .i64 b2 :: cs), .int .i64 reach] (.bool (y1 == y1)) :=
  Runs.script (r := .bool (y1 == y1)) (ps := ((Runs Tryz.ir 7 [] (.bool true)) :: (false = false) :: ((decide (((n : Nat) : Int) < 2)) = false) :: (Runs Tryz.ir 16 [.agg [.int .i64 p1, .int .i64 p2, .int .i64 v1, .int .i64 v2, .int .i64 h1, .int .i64 h2]] (.bool va)) :: ((!va) = false) :: ((decide (reach < 1)) = false) :: ((decide (reach > 524288)) = false) :: (0 ≤ (0 : Int) ∧ (0 : Int) < ((n : Nat) : Int)) :: (takeA (List.drop (Int.toNat 0 * 2) (.int .i64 a1 :: .int .i64 a2 :: .int .i64 b1 :: .int .i64 b2 :: cs)) 0 2 false = some (.agg [.int .i64 a1, .int .i64 a2])) :: (Runs Tryz.ir 17 [.agg [.int .i64 a1, .int .i64 a2]] (.bool na)) :: ((!na) = false) :: (0 ≤ (1 : Int) ∧ (1 : Int) < ((n : Nat) : Int)) :: (takeA (List.drop (Int.toNat 1 * 2) (.int .i64 a1 :: .int .i64 a2 :: .int .i64 b1 :: .int .i64 b2 :: cs)) 0 2 false = some (.agg [.int .i64 b1, .int .i64 b2])) :: (Runs Tryz.ir 17 [.agg [.int .i64 b1, .int .i64 b2]] (.bool nb)) :: ((!nb) = false) :: (Runs Tryz.ir 17 [.agg [.int .i64 p1, .int .i64 p2]] (.bool np)) :: ((!np) = false) :: (Runs Tryz.ir 18 [.agg [.int .i64 p1, .int .i64 p2, .int .i64 v1, .int .i64 v2, .int .i64 h1, .int .i64 h2]] (.tup [.agg [.int .i64 e1, .int .i64 e2], .agg [.int .i64 f1, .int .i64 f2]])) :: (0 ≤ (0 : Int) ∧ (0 : Int) < ((n : Nat) : Int)) :: (takeA (List.drop (Int.toNat 0 * 2) (.int .i64 a1 :: .int .i64 a2 :: .int .i64 b1 :: .int .i64 b2 :: cs)) 0 2 false = some (.agg [.int .i64 a1, .int .i64 a2])) :: (0 ≤ (1 : Int) ∧ (1 : Int) < ((n : Nat) : Int)) :: (takeA (List.drop (Int.toNat 1 * 2) (.int .i64 a1 :: .int .i64 a2 :: .int .i64 b1 :: .int .i64 b2 :: cs)) 0 2 false = some (.agg [.int .i64 b1, .int .i64 b2])) :: (Runs Tryz.ir 19 [.agg [.int .i64 p1, .int .i64 p2, .int .i64 v1, .int .i64 v2, .int .i64 h1, .int .i64 h2], .agg [.int .i64 a1, .int .i64 a2], .agg [.int .i64 b1, .int .i64 b2], .int .i64 reach] (.fresh 1 cl.length (ppp cl))) :: (0 ≤ (1 : Int) ∧ (1 : Int) < ((n : Nat) : Int)) :: (takeA (List.drop (Int.toNat 1 * 2) (.int .i64 a1 :: .int .i64 a2 :: .int .i64 b1 :: .int .i64 b2 :: cs)) 0 2 false = some (.agg [.int .i64 b1, .int .i64 b2])) :: (Runs Tryz.ir 20 [.agg [.int .i64 p1, .int .i64 p2, .int .i64 v1, .int .i64 v2, .int .i64 h1, .int .i64 h2], .agg [.int .i64 b1, .int .i64 b2], .int .i64 reach] (.fresh 1 dl.length (ppp dl))) :: (Runs Tryz.ir 21 [.sl cl.length (ppp cl), .int .i64 0] (.bool x0)) :: (0 ≤ (0 : Int) ∧ (0 : Int) < ((n : Nat) : Int)) :: (takeA (List.drop (Int.toNat 0 * 2) (.int .i64 a1 :: .int .i64 a2 :: .int .i64 b1 :: .int .i64 b2 :: cs)) 0 2 false = some (.agg [.int .i64 a1, .int .i64 a2])) :: (0 ≤ (1 : Int) ∧ (1 : Int) < ((n : Nat) : Int)) :: (takeA (List.drop (Int.toNat 1 * 2) (.int .i64 a1 :: .int .i64 a2 :: .int .i64 b1 :: .int .i64 b2 :: cs)) 0 2 false = some (.agg [.int .i64 b1, .int .i64 b2])) :: (Runs Tryz.ir 10 [.agg [.int .i64 p1, .int .i64 p2], .agg [.int .i64 a1, .int .i64 a2], .agg [.int .i64 b1, .int .i64 b2], .int .i64 reach] (.bool x0)) :: ((x0 == x0) = true) :: (Runs Tryz.ir 21 [.sl dl.length (ppp dl), .int .i64 0] (.bool y0)) :: (0 ≤ (1 : Int) ∧ (1 : Int) < ((n : Nat) : Int)) :: (takeA (List.drop (Int.toNat 1 * 2) (.int .i64 a1 :: .int .i64 a2 :: .int .i64 b1 :: .int .i64 b2 :: cs)) 0 2 false = some (.agg [.int .i64 b1, .int .i64 b2])) :: (Runs Tryz.ir 8 [.agg [.int .i64 p1, .int .i64 p2], .agg [.int .i64 b1, .int .i64 b2], .int .i64 reach] (.bool y0)) :: (Runs Tryz.ir 17 [.agg [.int .i64 e1, .int .i64 e2]] (.bool ne)) :: ((!ne) = false) :: ((y0 == y0) = true) :: (Runs Tryz.ir 21 [.sl cl.length (ppp cl), .int .i64 16] (.bool x1)) :: (0 ≤ (0 : Int) ∧ (0 : Int) < ((n : Nat) : Int)) :: (takeA (List.drop (Int.toNat 0 * 2) (.int .i64 a1 :: .int .i64 a2 :: .int .i64 b1 :: .int .i64 b2 :: cs)) 0 2 false = some (.agg [.int .i64 a1, .int .i64 a2])) :: (0 ≤ (1 : Int) ∧ (1 : Int) < ((n : Nat) : Int)) :: (takeA (List.drop (Int.toNat 1 * 2) (.int .i64 a1 :: .int .i64 a2 :: .int .i64 b1 :: .int .i64 b2 :: cs)) 0 2 false = some (.agg [.int .i64 b1, .int .i64 b2])) :: (Runs Tryz.ir 10 [.agg [.int .i64 e1, .int .i64 e2], .agg [.int .i64 a1, .int .i64 a2], .agg [.int .i64 b1, .int .i64 b2], .int .i64 reach] (.bool x1)) :: ((x1 == x1) = true) :: (Runs Tryz.ir 21 [.sl dl.length (ppp dl), .int .i64 16] (.bool y1)) :: (0 ≤ (1 : Int) ∧ (1 : Int) < ((n : Nat) : Int)) :: (takeA (List.drop (Int.toNat 1 * 2) (.int .i64 a1 :: .int .i64 a2 :: .int .i64 b1 :: .int .i64 b2 :: cs)) 0 2 false = some (.agg [.int .i64 b1, .int .i64 b2])) :: (Runs Tryz.ir 8 [.agg [.int .i64 e1, .int .i64 e2], .agg [.int .i64 b1, .int .i64 b2], .int .i64 reach] (.bool y1)) :: [])) TPA_holds rfl 400 rfl ((.r (.bool true)) :: (.b false) :: (.b false) :: (.r (.bool va)) :: (.b false) :: (.b false) :: (.b false) :: (.v (.agg [.int .i64 a1, .int .i64 a2])) :: (.r (.bool na)) :: (.b false) :: (.v (.agg [.int .i64 b1, .int .i64 b2])) :: (.r (.bool nb)) :: (.b false) :: (.r (.bool np)) :: (.b false) :: (.r (.tup [.agg [.int .i64 e1, .int .i64 e2], .agg [.int .i64 f1, .int .i64 f2]])) :: (.v (.agg [.int .i64 a1, .int .i64 a2])) :: (.v (.agg [.int .i64 b1, .int .i64 b2])) :: (.r (.fresh 1 cl.length (ppp cl))) :: (.v (.agg [.int .i64 b1, .int .i64 b2])) :: (.r (.fresh 1 dl.length (ppp dl))) :: (.r (.bool x0)) :: (.v (.agg [.int .i64 a1, .int .i64 a2])) :: (.v (.agg [.int .i64 b1, .int .i64 b2])) :: (.r (.bool x0)) :: (.b true) :: (.r (.bool y0)) :: (.v (.agg [.int .i64 b1, .int .i64 b2])) :: (.r (.bool y0)) :: (.r (.bool ne)) :: (.b false) :: (.b true) :: (.r (.bool x1)) :: (.v (.agg [.int .i64 a1, .int .i64 a2])) :: (.v (.agg [.int .i64 b1, .int .i64 b2])) :: (.r (.bool x1)) :: (.b true) :: (.r (.bool y1)) :: (.v (.agg [.int .i64 b1, .int .i64 b2])) :: (.r (.bool y1)) :: []) (by kernel_rfl) ⟨n3, rfl, c1, n4, (by rw [c6]; rfl), c7, c8, n1, rfl, n5, (by rw [c9]; rfl), n2, rfl, n6, (by rw [c10]; rfl), n7, (by rw [c11]; rfl), n8, n1, rfl, n2, rfl, n9, n2, rfl, n10, n11, n1, rfl, n2, rfl, n12, c2, n13, n2, rfl, n14, n15, (by rw [c12]; rfl), c3, n16, n1, rfl, n2, rfl, n17, c4, n18, n2, rfl, n19, trivial⟩

theorem Tryz.run4_m_4 (p1 p2 v1 v2 h1 h2 a1 a2 b1 b2 e1 e2 f1 f2 reach : Int) (n : Nat) (cs : List AV) (va na nb np ne x0 y0 : Bool) (cl dl : PPP) (c1 : (decide (((n : Nat) : Int) < 2)) = false)
    (c2 : (x0 == x0) = true)
    (c6 : (va) = true)
    (c7 : (decide (reach < 1)) = false)
    (c8 : (decide (reach > 524288)) = false)
    (c9 : (na) = true)
    (c10 : (nb) = true)
    (c11 : (np) = true)
    (c12 : (ne) = false)
    (n1 : 0 ≤ (0 : Int) ∧ (0 : Int) < ((n : Nat) : Int))
    (n2 : 0 ≤ (1 : Int) ∧ (1 : Int) < ((n : Nat) : Int))
    (n3 : Runs Tryz.ir 7 [] (.bool true))
    (n4 : Runs Tryz.ir 16 [.agg [.int .i64 p1, .int .i64 p2, .int .i64 v1, .int .i64 v2, .int .i64 h1, .int .i64 h2]] (.bool va))
    (n5 : Runs Tryz.ir 17 [.agg [.int .i64 a1, .int .i64 a2]] (.bool na))
    (n6 : Runs Tryz.ir 17 [.agg [.int .i64 b1, .int .i64 b2]] (.bool nb))
    (n7 : Runs Tryz.ir 17 [.agg [.int .i64 p1, .int .i64 p2]] (.bool np))
    (n8 : Runs Tryz.ir 18 [.agg [.int .i64 p1, .int .i64 p2, .int .i64 v1, .int .i64 v2, .int .i64 h1, .int .i64 h2]] (.tup [.agg [.int .i64 e1, .int .i64 e2], .agg [.int .i64 f1, .int .i64 f2]]))
    (n9 : Runs Tryz.ir 19 [.agg [.int .i64 p1, .int .i64 p2, .int .i64 v1, .int .i64 v2, .int .i64 h1, .int .i64 h2], .agg [.int .i64 a1, .int .i64 a2], .agg [.int .i64 b1, .int .i64 b2], .int .i64 reach] (.fresh 1 cl.length (ppp cl)))
    (n10 : Runs Tryz.ir 20 [.agg [.int .i64 p1, .int .i64 p2, .int .i64 v1, .int .i64 v2, .int .i64 h1, .int .i64 h2], .agg [.int .i64 b1, .int .i64 b2], .int .i64 reach] (.fresh 1 dl.length (ppp dl)))
    (n11 : Runs Tryz.ir 21 [.sl cl.length (ppp cl), .int .i64 0] (.bool x0))
    (n12 : Runs Tryz.ir 10 [.agg [.int .i64 p1, .int .i64 p2], .agg [.int .i64 a1, .int .i64 a2], .agg [.int .i64 b1, .int .i64 b2], .int .i64 reach] (.bool x0))
    (n13 : Runs Tryz.ir 21 [.sl dl.length (ppp dl), .int .i64 0] (.bool y0))
    (n14 : Runs Tryz.ir 8 [.agg [.int .i64 p1, .int .i64 p2], .agg [.int .i64 b1, .int .i64 b2], .int .i64 reach] (.bool y0))
    (n15 : Runs Tryz.ir 17 [.agg [.int .i64 e1, .int .i64 e2]] (.bool ne)) : Runs Tryz.ir 4 [.agg [.int .i64 p1, .int .i64 p2, .int .i64 v1, .int .i64 v2, .int .i64 h1, .int .i64 h2], .sl n (.int .i64 a1 :: .int .i64 a2 :: .int .i64 b1 :: .int .i64 b2 :: cs), .int .i64 reach] (.bool (y0 == y0)) :=
  Runs.script (r := .bool (y0 == y0)) (ps := ((Runs Tryz.ir 7 [] (.bool true)) :: (false = false) :: ((decide (((n : Nat) : Int) < 2)) = false) :: (Runs Tryz.ir 16 [.agg [.int .i64 p1, .int .i64 p2, .int .i64 v1, .int .i64 v2, .int .i64 h1, .int .i64 h2]] (.bool va)) :: ((!va) = false) :: ((decide (reach < 1)) = false) :: ((decide (reach > 524288)) = false) :: (0 ≤ (0 : Int) ∧ (0 : Int) < ((n : Nat) : Int)) :: (takeA (List.drop (Int.toNat 0 * 2) (.int .i64 a1 :: .int .i64 a2 :: .int .i64 b1 :: .int .i64 b2 :: cs)) 0 2 false = some (.agg [.int .i64 a1, .int .i64 a2])) :: (Runs Tryz.ir 17 [.agg [.int .i64 a1, .int .i64 a2]] (.bool na)) :: ((!na) = false) :: (0 ≤ (1 : Int) ∧ (1 : Int) < ((n : Nat) : Int)) :: (takeA (List.drop (Int.toNat 1 * 2) (.int .i64 a1 :: .int .i64 a2 :: .int .i64 b1 :: .int .i64 b2 :: cs)) 0 2 false = some (.agg [.int .i64 b1, .int .i64 b2])) :: (Runs Tryz.ir 17 [.agg [.int .i64 b1, .int .i64 b2]] (.bool nb)) :: ((!nb) = false) :: (Runs Tryz.ir 17 [.agg [.int .i64 p1, .int .i64 p2]] (.bool np)) :: ((!np) = false) :: (Runs Tryz.ir 18 [.agg [.int .i64 p1, .int .i64 p2, .int .i64 v1, .int .i64 v2, .int .i64 h1, .int .i64 h2]] (.tup [.agg [.int .i64 e1, .int .i64 e2], .agg [.int .i64 f1, .int .i64 f2]])) :: (0 ≤ (0 : Int) ∧ (0 : Int) < ((n : Nat) : Int)) :: (takeA (List.drop (Int.toNat 0 * 2) (.int .i64 a1 :: .int .i64 a2 :: .int .i64 b1 :: .int .i64 b2 :: cs)) 0 2 false = some (.agg [.int .i64 a1, .int .i64 a2])) :: (0 ≤ (1 : Int) ∧ (1 : Int) < ((n : Nat) : Int)) :: (takeA (List.drop (Int.toNat 1 * 2) (.int .i64 a1 :: .int .i64 a2 :: .int .i64 b1 :: .int .i64 b2 :: cs)) 0 2 false = some (.agg [.int .i64 b1, .int .i64 b2])) :: (Runs Tryz.ir 19 [.agg [.int .i64 p1, .int .i64 p2, .int .i64 v1, .int .i64 v2, .int .i64 h1, .int .i64 h2], .agg [.int .i64 a1, .int .i64 a2], .agg [.int .i64 b1, .int .i64 b2], .int .i64 reach] (.fresh 1 cl.length (ppp cl))) :: (0 ≤ (1 : Int) ∧ (1 : Int) < ((n : Nat) : Int)) :: (takeA (List.drop (Int.toNat 1 * 2) (.int .i64 a1 :: .int .i64 a2 :: .int .i64 b1 :: .int .i64 b2 :: cs)) 0 2 false = some (.agg [.int .i64 b1, .int .i64 b2])) :: (Runs Tryz.ir 20 [.agg [.int .i64 p1, .int .i64 p2, .int .i64 v1, .int .i64 v2, .int .i64 h1, .int .i64 h2], .agg [.int .i64 b1, .int .i64 b2], .int .i64 reach] (.fresh 1 dl.length (ppp dl))) :: (Runs Tryz.ir 21 [.sl cl.length (ppp cl), .int .i64 0] (.bool x0)) :: (0 ≤ (0 : Int) ∧ (0 : Int) < ((n : Nat) : Int)) :: (takeA (List.drop (Int.toNat 0 * 2) (.int .i64 a1 :: .int .i64 a2 :: .int .i64 b1 :: .int .i64 b2 :: cs)) 0 2 false = some (.agg [.int .i64 a1, .int .i64 a2])) :: (0 ≤ (1 : Int) ∧ (1 : Int) < ((n : Nat) : Int)) :: (takeA (List.drop (Int.toNat 1 * 2) (.int .i64 a1 :: .int .i64 a2 :: .int .i64 b1 :: .int .i64 b2 :: cs)) 0 2 false = some (.agg [.int .i64 b1, .int .i64 b2])) :: (Runs Tryz.ir 10 [.agg [.int .i64 p1, .int .i64 p2], .agg [.int .i64 a1, .int .i64 a2], .agg [.int .i64 b1, .int .i64 b2], .int .i64 reach] (.bool x0)) :: ((x0 == x0) = true) :: (Runs Tryz.ir 21 [.sl dl.length (ppp dl), .int .i64 0] (.bool y0)) :: (0 ≤ (1 : Int) ∧ (1 : Int) < ((n : Nat) : Int)) :: (takeA (List.drop (Int.toNat 1 * 2) (.int .i64 a1 :: .int .i64 a2 :: .int .i64 b1 :: .int .i64 b2 :: cs)) 0 2 false = some (.agg [.int .i64 b1, .int .i64 b2])) :: (Runs Tryz.ir 8 [.agg [.int .i64 p1, .int .i64 p2], .agg [.int .i64 b1, .int .i64 b2], .int .i64 reach] (.bool y0)) :: (Runs Tryz.ir 17 [.agg [.int .i64 e1, .int .i64 e2]] (.bool ne)) :: ((!ne) = true) :: [])) TPA_holds rfl 400 rfl [.r (.bool true), .b false, .b false, .r (.bool va), .b false, .b false, .b false, .v (.agg [.int .i64 a1, .int .i64 a2]), .r (.bool na), .b false, .v (.agg [.int .i64 b1, .int .i64 b2]), .r (.bool nb), .b false, .r (.bool np), .b false, .r (.tup [.agg [.int .i64 e1, .int .i64 e2], .agg [.int .i64 f1, .int .i64 f2]]), .v (.agg [.int .i64 a1, .int .i64 a2]), .v (.agg [.int .i64 b1, .int .i64 b2]), .r (.fresh 1 cl.length (ppp cl)), .v (.agg [.int .i64 b1, .int .i64 b2]), .r (.fresh 1 dl.length (ppp dl)), .r (.bool x0), .v (.agg [.int .i64 a1, .int .i64 a2]), .v (.agg [.int .i64 b1, .int .i64 b2]), .r (.bool x0), .b true, .r (.bool y0), .v (.agg [.int .i64 b1, .int .i64 b2]), .r (.bool y0), .r (.bool ne), .b true] (by kernel_rfl) ⟨n3, rfl, c1, n4, (by rw [c6]; rfl), c7, c8, n1, rfl, n5, (by rw [c9]; rfl), n2, rfl, n6, (by rw [c10]; rfl), n7, (by rw [c11]; rfl), n8, n1, rfl, n2, rfl, n9, n2, rfl, n10, n11, n1, rfl, n2, rfl, n12, c2, n13, n2, rfl, n14, n15, (by rw [c12]; rfl), trivial⟩

theorem Tryz.run4_m_5 (p1 p2 v1 v2 h1 h2 a1 a2 b1 b2 reach : Int) (n : Nat) (cs : List AV) (va na nb np : Bool) (c1 : (decide (((n : Nat) : Int) < 2)) = false)
    (c6 : (va) = true)
    (c7 : (decide (reach < 1)) = false)
    (c8 : (decide (reach > 524288)) = false)
    (c9 : (na) = true)
    (c10 : (nb) = true)
    (c11 : (np) = false)
    (n1 : 0 ≤ (0 : Int) ∧ (0 : Int) < ((n : Nat) : Int))
    (n2 : 0 ≤ (1 : Int) ∧ (1 : Int) < ((n : Nat) : Int))
    (n3 : Runs Tryz.ir 7 [] (.bool true))
    (n4 : Runs Tryz.ir 16 [.agg [.int .i64 p1, .int .i64 p2, .int .i64 v1, .int .i64 v2, .int .i64 h1, .int .i64 h2]] (.bool va))
    (n5 : Runs Tryz.ir 17 [.agg [.int .i64 a1, .int .i64 a2]] (.bool na))
    (n6 : Runs Tryz.ir 17 [.agg [.int .i64 b1, .int .i64 b2]] (.bool nb))
    (n7 : Runs Tryz.ir 17 [.agg [.int .i64 p1, .int .i64 p2]] (.bool np)) : Runs Tryz.ir 4 [.agg [.int .i64 p1, .int .i64 p2, .int .i64 v1, .int .i64 v2, .int .i64 h1, .int .i64 h2], .sl n (.int .i64 a1 :: .int .i64 a2 :: .int .i64 b1 :: .int .i64 b2 :: cs), .int .i64 reach] (.bool true) :=
  Runs.script (r := .bool true) (ps := [Runs Tryz.ir 7 [] (.bool true), false = false, (decide (((n : Nat) : Int) < 2)) = false, Runs Tryz.ir 16 [.agg [.int .i64 p1, .int .i64 p2, .int .i64 v1, .int .i64 v2, .int .i64 h1, .int .i64 h2]] (.bool va), (!va) = false, (decide (reach < 1)) = false, (decide (reach > 524288)) = false, 0 ≤ (0 : Int) ∧ (0 : Int) < ((n : Nat) : Int), takeA (List.drop (Int.toNat 0 * 2) (.int .i64 a1 :: .int .i64 a2 :: .int .i64 b1 :: .int .i64 b2 :: cs)) 0 2 false = some (.agg [.int .i64 a1, .int .i64 a2]), Runs Tryz.ir 17 [.agg [.int .i64 a1, .int .i64 a2]] (.bool na), (!na) = false, 0 ≤ (1 : Int) ∧ (1 : Int) < ((n : Nat) : Int), takeA (List.drop (Int.toNat 1 * 2) (.int .i64 a1 :: .int .i64 a2 :: .int .i64 b1 :: .int .i64 b2 :: cs)) 0 2 false = some (.agg [.int .i64 b1, .int .i64 b2]), Runs Tryz.ir 17 [.agg [.int .i64 b1, .int .i64 b2]] (.bool nb), (!nb) = false, Runs Tryz.ir 17 [.agg [.int .i64 p1, .int .i64 p2]] (.bool np), (!np) = true, Runs Tryz.ir 7 [] (.bool true)]) TPA_holds rfl 400 rfl [.r (.bool true), .b false, .b false, .r (.bool va), .b false, .b false, .b false, .v (.agg [.int .i64 a1, .int .i64 a2]), .r (.bool na), .b false, .v (.agg [.int .i64 b1, .int .i64 b2]), .r (.bool nb), .b false, .r (.bool np), .b true, .r (.bool true)] (by kernel_rfl) ⟨n3, rfl, c1, n4, (by rw [c6]; rfl), c7, c8, n1, rfl, n5, (by rw [c9]; rfl), n2, rfl, n6, (by rw [c10]; rfl), n7, (by rw [c11]; rfl), n3, trivial⟩

theorem Tryz.run4_m_6 (p1 p2 v1 v2 h1 h2 a1 a2 b1 b2 reach : Int) (n : Nat) (cs : List AV) (va na nb : Bool) (c1 : (decide (((n : Nat) : Int) < 2)) = false)
    (c6 : (va) = true)
    (c7 : (decide (reach < 1)) = false)
    (c8 : (decide (reach > 524288)) = false)
    (c9 : (na) = true)
    (c10 : (nb) = false)
    (n1 : 0 ≤ (0 : Int) ∧ (0 : Int) < ((n : Nat) : Int))
    (n2 : 0 ≤ (1 : Int) ∧ (1 : Int) < ((n : Nat) : Int))
    (n3 : Runs Tryz.ir 7 [] (.bool true))
    (n4 : Runs Tryz.ir 16 [.agg [.int .i64 p1, .int .i64 p2, .int .i64 v1, .int .i64 v2, .int .i64 h1, .int .i64 h2]] (.bool va))
    (n5 : Runs Tryz.ir 17 [.agg [.int .i64 a1, .int .i64 a2]] (.bool na))
    (n6 : Runs Tryz.ir 17 [.agg [.int .i64 b1, .int .i64 b2]] (.bool nb)) : Runs Tryz.ir 4 [.agg [.int .i64 p1, .int .i64 p2, .int .i64 v1, .int .i64 v2, .int .i64 h1, .int .i64 h2], .sl n (.int .i64 a1 :: .int .i64 a2 :: .int .i64 b1 :: .int .i64 b2 :: cs), .int .i64 reach] (.bool true) :=
  Runs.script (r := .bool true) (ps := [Runs Tryz.ir 7 [] (.bool true), false = false, (decide (((n : Nat) : Int) < 2)) = false, Runs Tryz.ir 16 [.agg [.int .i64 p1, .int .i64 p2, .int .i64 v1, .int .i64 v2, .int .i64 h1, .int .i64 h2]] (.bool va), (!va) = false, (decide (reach < 1)) = false, (decide (reach > 524288)) = false, 0 ≤ (0 : Int) ∧ (0 : Int) < ((n : Nat) : Int), takeA (List.drop (Int.toNat 0 * 2) (.int .i64 a1 :: .int .i64 a2 :: .int .i64 b1 :: .int .i64 b2 :: cs)) 0 2 false = some (.agg [.int .i64 a1, .int .i64 a2]), Runs Tryz.ir 17 [.agg [.int .i64 a1, .int .i64 a2]] (.bool na), (!na) = false, 0 ≤ (1 : Int) ∧ (1 : Int) < ((n : Nat) : Int), takeA (List.drop (Int.toNat 1 * 2) (.int .i64 a1 :: .int .i64 a2 :: .int .i64 b1 :: .int .i64 b2 :: cs)) 0 2 false = some (.agg [.int .i64 b1, .int .i64 b2]), Runs Tryz.ir 17 [.agg [.int .i64 b1, .int .i64 b2]] (.bool nb), (!nb) = true, true = true, Runs Tryz.ir 7 [] (.bool true)]) TPA_holds rfl 400 rfl [.r (.bool true), .b false, .b false, .r (.bool va), .b false, .b false, .b false, .v (.agg [.int .i64 a1, .int .i64 a2]), .r (.bool na), .b false, .v (.agg [.int .i64 b1, .int .i64 b2]), .r (.bool nb), .b true, .b true, .r (.bool true)] (by kernel_rfl) ⟨n3, rfl, c1, n4, (by rw [c6]; rfl), c7, c8, n1, rfl, n5, (by rw [c9]; rfl), n2, rfl, n6, (by rw [c10]; rfl), rfl, n3, trivial⟩

theorem Tryz.run4_m_7 (p1 p2 v1 v2 h1 h2 a1 a2 b1 b2 reach : Int) (n : Nat) (cs : List AV) (va na : Bool) (c1 : (decide (((n : Nat) : Int) < 2)) = false)
    (c6 : (va) = true)
    (c7 : (decide (reach < 1)) = false)
    (c8 : (decide (reach > 524288)) = false)
    (c9 : (na) = false)
    (n1 : 0 ≤ (0 : Int) ∧ (0 : Int) < ((n : Nat) : Int))
    (n2 : Runs Tryz.ir 7 [] (.bool true))
    (n3 : Runs Tryz.ir 16 [.agg [.int .i64 p1, .int .i64 p2, .int .i64 v1, .int .i64 v2, .int .i64 h1, .int .i64 h2]] (.bool va))
    (n4 : Runs Tryz.ir 17 [.agg [.int .i64 a1, .int .i64 a2]] (.bool na)) : Runs Tryz.ir 4 [.agg [.int .i64 p1, .int .i64 p2, .int .i64 v1, .int .i64 v2, .int .i64 h1, .int .i64 h2], .sl n (.int .i64 a1 :: .int .i64 a2 :: .int .i64 b1 :: .int .i64 b2 :: cs), .int .i64 reach] (.bool true) :=
  Runs.script (r := .bool true) (ps := [Runs Tryz.ir 7 [] (.bool true), false = false, (decide (((n : Nat) : Int) < 2)) = false, Runs Tryz.ir 16 [.agg [.int .i64 p1, .int .i64 p2, .int .i64 v1, .int .i64 v2, .int .i64 h1, .int .i64 h2]] (.bool va), (!va) = false, (decide (reach < 1)) = false, (decide (reach > 524288)) = false, 0 ≤ (0 : Int) ∧ (0 : Int) < ((n : Nat) : Int), takeA (List.drop (Int.toNat 0 * 2) (.int .i64 a1 :: .int .i64 a2 :: .int .i64 b1 :: .int .i64 b2 :: cs)) 0 2 false = some (.agg [.int .i64 a1, .int .i64 a2]), Runs Tryz.ir 17 [.agg [.int .i64 a1, .int .i64 a2]] (.bool na), (!na) = true, true = true, true = true, Runs Tryz.ir 7 [] (.bool true)]) TPA_holds rfl 400 rfl [.r (.bool true), .b false, .b false, .r (.bool va), .b false, .b false, .b false, .v (.agg [.int .i64 a1, .int .i64 a2]), .r (.bool na), .b true, .b true, .b true, .r (.bool true)] (by kernel_rfl) ⟨n2, rfl, c1, n3, (by rw [c6]; rfl), c7, c8, n1, rfl, n4, (by rw [c9]; rfl), rfl, rfl, n2, trivial⟩

theorem Tryz.run4_m_8 (p1 p2 v1 v2 h1 h2 a1 a2 b1 b2 reach : Int) (n : Nat) (cs : List AV) (va : Bool) (c1 : (decide (((n : Nat) : Int) < 2)) = false)
    (c6 : (va) = false)
    (n1 : Runs Tryz.ir 7 [] (.bool true))
    (n2 : Runs Tryz.ir 16 [.agg [.int .i64 p1, .int .i64 p2, .int .i64 v1, .int .i64 v2, .int .i64 h1, .int .i64 h2]] (.bool va)) : Runs Tryz.ir 4 [.agg [.int .i64 p1, .int .i64 p2, .int .i64 v1, .int .i64 v2, .int .i64 h1, .int .i64 h2], .sl n (.int .i64 a1 :: .int .i64 a2 :: .int .i64 b1 :: .int .i64 b2 :: cs), .int .i64 reach] (.bool true) :=
  Runs.script (r := .bool true) (ps := [Runs Tryz.ir 7 [] (.bool true), false = false, (decide (((n : Nat) : Int) < 2)) = false, Runs Tryz.ir 16 [.agg [.int .i64 p1, .int .i64 p2, .int .i64 v1, .int .i64 v2, .int .i64 h1, .int .i64 h2]] (.bool va), (!va) = true, true = true, true = true, true = true, true = true, true = true, Runs Tryz.ir 7 [] (.bool true)]) TPA_holds rfl 400 rfl [.r (.bool true), .b false, .b false, .r (.bool va), .b true, .b true, .b true, .b true, .b true, .b true, .r (.bool true)] (by kernel_rfl) ⟨n1, rfl, c1, n2, (by rw [c6]; rfl), rfl, rfl, rfl, rfl, rfl, n1, trivial⟩


theorem in10 {x y m : Int} (hm : 0 ≤ m ∧ m ≤ 1073741824) (h : near10 x y m = true) : In m x y := by
  unfold near10 at h
  unfold In
  have w : IntKind.i64.wrap (0 - m) = -m := by rw [w64 (by omega) (by omega)]; omega
  rw [w] at h
  repeat (split at h; rotate_left; · simp at h)
  simp only [decide_eq_true_eq] at *
  omega
theorem within10_of {x y m : Int} (hm : 0 ≤ m ∧ m ≤ 1073741824) (h : In m x y) : within10 x y m = true := by
  unfold In at h
  unfold within10
  have w : IntKind.i64.wrap (0 - m) = -m := by rw [w64 (by omega) (by omega)]; omega
  rw [w, decide_eq_true (show x ≥ -m by omega), decide_eq_true (show x ≤ m by omega), decide_eq_true (show y ≥ -m by omega), decide_eq_true (show y ≤ m by omega)]
theorem valid10_yes {p1 p2 v1 v2 h1 h2 : Int} (h : valid10 p1 p2 v1 v2 h1 h2 = true) : In 8388608 p1 p2 ∧ In 262144 v1 v2 ∧ In 4096 h1 h2 := by
  unfold valid10 at h
  cases g1 : near10 p1 p2 8388608 <;> cases g2 : near10 v1 v2 262144 <;> simp only [g1, g2, Bool.false_eq_true] at h
  exact ⟨in10 (by decide) g1, in10 (by decide) g2, in10 (by decide) h⟩
theorem validF_of {p1 p2 v1 v2 h1 h2 : Int} (a : In 8388608 p1 p2) (b : In 262144 v1 v2) (c : In 4096 h1 h2) : validF p1 p2 v1 v2 h1 h2 = true := by
  unfold validF
  rw [within10_of (by decide) a, within10_of (by decide) b, within10_of (by decide) c]
theorem li_i64 {a b c n : Int} (ha : -n ≤ a ∧ a ≤ n) (hb : -n ≤ b ∧ b ≤ n) (hc : -n ≤ c ∧ c ≤ n) (hn : n ≤ 9223372036854775807) : ∀ x ∈ [a, b, c], -9223372036854775808 ≤ x ∧ x ≤ 9223372036854775807 := by
  intro x hx
  simp only [List.mem_cons, List.not_mem_nil, or_false] at hx
  rcases hx with rfl | rfl | rfl <;> omega
theorem li1_i64 {a : Int} (ha : -9223372036854775808 ≤ a ∧ a ≤ 9223372036854775807) : ∀ x ∈ [a], -9223372036854775808 ≤ x ∧ x ≤ 9223372036854775807 := by
  intro x hx
  rw [List.mem_singleton.1 hx]; exact ha
theorem ints1_P {a : Int} (ha : -9223372036854775808 ≤ a ∧ a ≤ 9223372036854775807) : ∃ ts, IsP ts (peval [a]) 1 2 ∧ Runs Tryz.ir 50 [.sl 1 [.int .i64 a]] (.fresh 2 ts.length (pc ts)) := ints_P (xs := [a]) (li1_i64 ha) (by simp)
theorem ints3_P {a b c n : Int} (ha : -n ≤ a ∧ a ≤ n) (hb : -n ≤ b ∧ b ≤ n) (hc : -n ≤ c ∧ c ≤ n) (hn : n ≤ 9223372036854775807) : ∃ ts, IsP ts (peval [a, b, c]) 3 2 ∧ Runs Tryz.ir 50 [.sl 3 [.int .i64 a, .int .i64 b, .int .i64 c]] (.fresh 2 ts.length (pc ts)) := ints_P (xs := [a, b, c]) (li_i64 ha hb hc hn) (by simp)
theorem polys_P {p1 p2 v1 v2 h1 h2 : Int} (a : In 8388608 p1 p2) (b : In 262144 v1 v2) (c : In 4096 h1 h2) : ∃ xs ys, IsP xs (peval [p1, v1, h1]) 3 2 ∧ IsP ys (peval [p2, v2, h2]) 3 2 ∧
    Runs Tryz.ir 69 [.agg [.int .i64 p1, .int .i64 p2, .int .i64 v1, .int .i64 v2, .int .i64 h1, .int .i64 h2]] (.tup [.sl xs.length (pc xs), .sl ys.length (pc ys)]) := by
  have hv : Runs Tryz.ir 53 [.agg [.int .i64 p1, .int .i64 p2, .int .i64 v1, .int .i64 v2, .int .i64 h1, .int .i64 h2]] (.bool true) := by
    have := Tryz.run53 p1 p2 v1 v2 h1 h2
    rwa [validF_of a b c] at this
  unfold In at a b c
  obtain ⟨xs, i1, r1⟩ := ints3_P (n := 8388608) (a := p1) (b := v1) (c := h1) (by omega) (by omega) (by omega) (by omega)
  obtain ⟨ys, i2, r2⟩ := ints3_P (n := 8388608) (a := p2) (b := v2) (c := h2) (by omega) (by omega) (by omega) (by omega)
  exact ⟨xs, ys, i1, i2, Tryz.run69 p1 p2 v1 v2 h1 h2 xs ys hv (Tryz.run93 [p1, v1, h1] xs r1) (Tryz.run93 [p2, v2, h2] ys r2)⟩
theorem relative_P {p1 p2 v1 v2 h1 h2 z1 z2 : Int} (a : In 8388608 p1 p2) (b : In 262144 v1 v2) (c : In 4096 h1 h2) (d : In 1048576 z1 z2) : ∃ us vs, IsP us (fun t => peval [p1, v1, h1] t - peval [z1] t) 3 3 ∧ IsP vs (fun t => peval [p2, v2, h2] t - peval [z2] t) 3 3 ∧
    Runs Tryz.ir 47 [.agg [.int .i64 p1, .int .i64 p2, .int .i64 v1, .int .i64 v2, .int .i64 h1, .int .i64 h2], .agg [.int .i64 z1, .int .i64 z2]] (.tup [.sl us.length (pc us), .sl vs.length (pc vs)]) := by
  obtain ⟨xs, ys, i1, i2, r⟩ := polys_P a b c
  unfold In at d
  obtain ⟨cx, j1, s1⟩ := ints1_P (a := z1) (by omega)
  obtain ⟨cy, j2, s2⟩ := ints1_P (a := z2) (by omega)
  obtain ⟨us, k1, t1⟩ := minus_P i1 j1 (by decide) (by decide)
  obtain ⟨vs, k2, t2⟩ := minus_P i2 j2 (by decide) (by decide)
  exact ⟨us, vs, k1, k2, Tryz.run47 p1 p2 v1 v2 h1 h2 z1 z2 xs ys cx cy us vs r s1 t1 s2 t2⟩
theorem square_P {xs ys : List Rn} {f g : Int → Int} (hx : IsP xs f 3 3) (hy : IsP ys g 3 3) : ∃ ws, IsP ws (fun t => f t * f t + g t * g t) 6 10 ∧ Runs Tryz.ir 77 [.sl xs.length (pc xs), .sl ys.length (pc ys)] (.fresh 2 ws.length (pc ws)) := by
  obtain ⟨us, i1, r1⟩ := times_P hx hx (by decide) (by decide)
  obtain ⟨vs, i2, r2⟩ := times_P hy hy (by decide) (by decide)
  obtain ⟨ws, i3, r3⟩ := plus_P i1 i2 (by decide) (by decide)
  exact ⟨ws, i3, Tryz.run77 xs ys us vs ws r1 r2 r3⟩
theorem linear_P {xs ys : List Rn} {f g : Int → Int} {a b : Int} (ha : -9223372036854775808 ≤ a ∧ a ≤ 9223372036854775807) (hb : -9223372036854775808 ≤ b ∧ b ≤ 9223372036854775807) (hx : IsP xs f 3 3) (hy : IsP ys g 3 3) : ∃ ws, IsP ws (fun t => peval [a] t * f t + peval [b] t * g t) 4 7 ∧ Runs Tryz.ir 48 [.int .i64 a, .sl xs.length (pc xs), .int .i64 b, .sl ys.length (pc ys)] (.fresh 2 ws.length (pc ws)) := by
  obtain ⟨as1, j1, s1⟩ := ints1_P (a := a) ha
  obtain ⟨bs, j2, s2⟩ := ints1_P (a := b) hb
  obtain ⟨us, i1, r1⟩ := times_P j1 hx (by decide) (by decide)
  obtain ⟨vs, i2, r2⟩ := times_P j2 hy (by decide) (by decide)
  obtain ⟨ws, i3, r3⟩ := plus_P i1 i2 (by decide) (by decide)
  exact ⟨ws, i3, Tryz.run48 xs ys as1 bs us vs ws a b s1 r1 s2 r2 r3⟩
theorem disc_P {p1 p2 v1 v2 h1 h2 z1 z2 R : Int} (a : In 8388608 p1 p2) (b : In 262144 v1 v2) (c : In 4096 h1 h2) (d : In 1048576 z1 z2) (hR : 1 ≤ R ∧ R ≤ 524288) :
    ∃ ws, IsP ws (fun t => peval [R * R] t - ((peval [p1, v1, h1] t - peval [z1] t) * (peval [p1, v1, h1] t - peval [z1] t) + (peval [p2, v2, h2] t - peval [z2] t) * (peval [p2, v2, h2] t - peval [z2] t))) 6 11 ∧
    Runs Tryz.ir 52 [.agg [.int .i64 p1, .int .i64 p2, .int .i64 v1, .int .i64 v2, .int .i64 h1, .int .i64 h2], .agg [.int .i64 z1, .int .i64 z2], .int .i64 R] (.fresh 2 ws.length (pc ws)) := by
  have hRR := sq_le (x := R) (n := 524288) (by omega)
  have hRn := sq_nn R
  have w : IntKind.i64.wrap (R * R) = R * R := w64 (by omega) (by omega)
  obtain ⟨xs, ys, i1, i2, r⟩ := relative_P a b c d
  obtain ⟨rs, j1, s1⟩ := ints1_P (a := R * R) (by omega)
  obtain ⟨us, i3, r3⟩ := square_P i1 i2
  obtain ⟨ws, i4, r4⟩ := minus_P j1 i3 (by decide) (by decide)
  exact ⟨ws, i4, Tryz.run52 p1 p2 v1 v2 h1 h2 z1 z2 R xs ys rs us ws (by rw [w]; exact s1) r r3 r4⟩
theorem within_run {z1 z2 : Int} (d : In 1048576 z1 z2) : Runs Tryz.ir 27 [.int .i64 1048576, .sl 1 [.int .i64 z1, .int .i64 z2]] (.bool true) := by
  have h := TWall_holds 27 [.int .i64 1048576, .sl 1 [.int .i64 z1, .int .i64 z2]] (.bool (boxB 1048576 z1 z2)) _ rfl ⟨by decide, by decide, trivial⟩
  rwa [boxOf d (by decide)] at h
theorem Disc_P {p1 p2 v1 v2 h1 h2 z1 z2 R : Int} (a : In 8388608 p1 p2) (b : In 262144 v1 v2) (c : In 4096 h1 h2) (d : In 1048576 z1 z2) (hR : 1 ≤ R ∧ R ≤ 524288) :
    ∃ ws, IsP ws (fun t => peval [R * R] t - ((peval [p1, v1, h1] t - peval [z1] t) * (peval [p1, v1, h1] t - peval [z1] t) + (peval [p2, v2, h2] t - peval [z2] t) * (peval [p2, v2, h2] t - peval [z2] t))) 6 11 ∧
    Runs Tryz.ir 52 [.agg [.int .i64 p1, .int .i64 p2, .int .i64 v1, .int .i64 v2, .int .i64 h1, .int .i64 h2], .agg [.int .i64 z1, .int .i64 z2], .int .i64 R] (.fresh 2 ws.length (pc ws)) ∧
    Runs Tryz.ir 20 [.agg [.int .i64 p1, .int .i64 p2, .int .i64 v1, .int .i64 v2, .int .i64 h1, .int .i64 h2], .agg [.int .i64 z1, .int .i64 z2], .int .i64 R] (.fresh 1 ([[ws]] : PPP).length (ppp [[ws]])) := by
  obtain ⟨ws, i1, r1⟩ := disc_P a b c d hR
  have hv : Runs Tryz.ir 53 [.agg [.int .i64 p1, .int .i64 p2, .int .i64 v1, .int .i64 v2, .int .i64 h1, .int .i64 h2]] (.bool true) := by
    have := Tryz.run53 p1 p2 v1 v2 h1 h2
    rwa [validF_of a b c] at this
  exact ⟨ws, i1, r1, Tryz.run20 p1 p2 v1 v2 h1 h2 z1 z2 R ws (by simp; omega) (by simp; omega) hv (within_run d) r1⟩

/-! ### At the beginning and at the end -/
theorem hv_scale (ts : List Int) (x d : Int) : d * hv ts (d * x) d = d ^ ts.length * peval ts x := by
  induction ts with
  | nil => simp [hv, peval]
  | cons t ts ih =>
    simp only [hv, peval, List.length_cons, Int.pow_succ]
    generalize d ^ ts.length = p at *
    generalize hv ts (d * x) d = H at *
    generalize peval ts x = E at *
    have : d * (t * p + d * x * H) = d * (t * p) + d * x * (d * H) := by grind
    rw [this, ih]
    grind
theorem posAt_P {ts : List Rn} {f : Int → Int} {n K : Nat} (h : IsP ts f n K) (x : Int) : posAt (16 * x) ts = decide (0 < f x) := by
  unfold posAt
  rw [decide_eq_decide]
  have h1 := hv_scale (trimL (vals ts)) x 16
  rw [peval_trim, h.ev] at h1
  have hp : (0 : Int) < 16 ^ (trimL (vals ts)).length := Int.pow_pos (by decide)
  generalize (16 : Int) ^ (trimL (vals ts)).length = p at *
  generalize hv (trimL (vals ts)) (16 * x) 16 = H at *
  constructor
  · intro g
    rcases Int.lt_or_le 0 (f x) with k | k
    · exact k
    · have := Int.mul_nonneg (show 0 ≤ p by omega) (show 0 ≤ -(f x) by omega)
      rw [Int.mul_neg] at this
      omega
  · intro g
    have := Int.mul_pos hp g
    omega
theorem IsP.mild {ts : List Rn} {f : Int → Int} {n K : Nat} (h : IsP ts f n K) (hn : n ≤ 1000) (hK : K ≤ 1000) : Mild ts := ⟨Nat.le_trans h.len hn, fun r g => (h.good r g).mono hK⟩

def TWS : Table := TWs4
theorem TWS_holds : THolds Tryz.ir TWS := TWs4_holds
end Go.Proofs.YthakfjlnhldehaaGreat
