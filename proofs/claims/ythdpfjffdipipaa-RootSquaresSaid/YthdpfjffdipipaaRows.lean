/-
  No cell of these rows narrows 'for every input' (looked for: loops, veiled, ifaces, maps, wideKeys, modest, calm, conditions, laid).
  DERIVED. THE GIVEN ROWS OF THIS SEAT. 4 by the template 'for every input the law returns true; each argument reads behind the call as it read before'; 0 by the template 'total and deterministic' (their statements: YthdpfjffdipipaaTotals.lean).
  GIVEN WITH THE SEED: the statements are not yours to turn. If you find one false, say at which input.
  Laid BY PROGRAM, IN A SANDBOX (cutbox-rows.mjs): the forced cells as the released guide's own fill.sh prints them over the translation db693e0e75e21576… (all of the seat's roots in one cut). By AI agents, Wed Nov 11 2026. No macro, syntax, notation, axiom, sorry.
-/
import Derived.Test.YthdpfjffdipipaaChecked
import GoSem.Claim
import GoSem.ClaimJoined
import GoSem.ClaimMapViews
import Derived.JoinedTies
import Derived.KernelRfl
namespace Go.Proofs.Ythdpfjffdipipaa
/- THE CELL 'sum', in the pinned program and in every row, IS THE sha256 OF THE DUMP (.gsa) THAT YthdpfjffdipipaaProg.lean LOADS. Nothing in Lean hashes anything: it is a label: what it is worth is what the hold of that sum in a sandbox is worth. -/
noncomputable def Try.pinned : Pinned := { name := "ythdpfjffdipipaa", sum := "db693e0e75e215768343078c2878bed50e2422937bae936496a3f2d7a714a174", checked := Try.checked }
namespace Rows
def none {H : Type} : Left H := { results := [], args := [] }

/-- 'pinballlaw02.PolySigns': WHATEVER THE INPUT: true; the input reads as it did. -/
def polySignsSpec : ChangeSpec := { name := "polySigns", fn := fun _ => fun
  | [d1, d2] => { results := [.lit (.bool true)], args := [d1, d2] }
  | _ => none }
def polySignsRow : OpenClaim := { program := "ythdpfjffdipipaa", sum := "db693e0e75e215768343078c2878bed50e2422937bae936496a3f2d7a714a174", func := "pinball/pinballlaw02.PolySigns", spec := "polySigns", apart := false }
def PolySignsSaid : Prop := polySignsRow.holds Try.pinned (OpenSpec.ofChange polySignsSpec)

/-- ITS FALSE NEIGHBOUR: 'it returns false'. Refute it at one input. -/
def polySignsWrong : ChangeSpec := { name := "polySigns", fn := fun _ => fun
  | [d1, d2] => { results := [.lit (.bool false)], args := [d1, d2] }
  | _ => none }
def PolySignsWrongFalsely : Prop := polySignsRow.holds Try.pinned (OpenSpec.ofChange polySignsWrong)

/-- 'pinballlaw03.SturmCounts': WHATEVER THE INPUT: true; the input reads as it did. -/
def sturmCountsSpec : ChangeSpec := { name := "sturmCounts", fn := fun _ => fun
  | [d1, d2, d3] => { results := [.lit (.bool true)], args := [d1, d2, d3] }
  | _ => none }
def sturmCountsRow : OpenClaim := { program := "ythdpfjffdipipaa", sum := "db693e0e75e215768343078c2878bed50e2422937bae936496a3f2d7a714a174", func := "pinball/pinballlaw03.SturmCounts", spec := "sturmCounts", unfollowed := true, recurses := true, apart := false }
def SturmCountsSaid : Prop := sturmCountsRow.holds Try.pinned (OpenSpec.ofChange sturmCountsSpec)

/-- ITS FALSE NEIGHBOUR: 'it returns false'. Refute it at one input. -/
def sturmCountsWrong : ChangeSpec := { name := "sturmCounts", fn := fun _ => fun
  | [d1, d2, d3] => { results := [.lit (.bool false)], args := [d1, d2, d3] }
  | _ => none }
def SturmCountsWrongFalsely : Prop := sturmCountsRow.holds Try.pinned (OpenSpec.ofChange sturmCountsWrong)

/-- 'pinballlaw03.SturmDyadics': WHATEVER THE INPUT: true; the input reads as it did. -/
def sturmDyadicsSpec : ChangeSpec := { name := "sturmDyadics", fn := fun _ => fun
  | [d1, d2] => { results := [.lit (.bool true)], args := [d1, d2] }
  | _ => none }
def sturmDyadicsRow : OpenClaim := { program := "ythdpfjffdipipaa", sum := "db693e0e75e215768343078c2878bed50e2422937bae936496a3f2d7a714a174", func := "pinball/pinballlaw03.SturmDyadics", spec := "sturmDyadics", unfollowed := true, recurses := true, apart := false }
def SturmDyadicsSaid : Prop := sturmDyadicsRow.holds Try.pinned (OpenSpec.ofChange sturmDyadicsSpec)

/-- ITS FALSE NEIGHBOUR: 'it returns false'. Refute it at one input. -/
def sturmDyadicsWrong : ChangeSpec := { name := "sturmDyadics", fn := fun _ => fun
  | [d1, d2] => { results := [.lit (.bool false)], args := [d1, d2] }
  | _ => none }
def SturmDyadicsWrongFalsely : Prop := sturmDyadicsRow.holds Try.pinned (OpenSpec.ofChange sturmDyadicsWrong)

/-- 'pinballlaw04.RootSquares': WHATEVER THE INPUT: true; the input reads as it did. -/
def rootSquaresSpec : ChangeSpec := { name := "rootSquares", fn := fun _ => fun
  | [d1, d2] => { results := [.lit (.bool true)], args := [d1, d2] }
  | _ => none }
def rootSquaresRow : OpenClaim := { program := "ythdpfjffdipipaa", sum := "db693e0e75e215768343078c2878bed50e2422937bae936496a3f2d7a714a174", func := "pinball/pinballlaw04.RootSquares", spec := "rootSquares", recurses := true, apart := false }
def RootSquaresSaid : Prop := rootSquaresRow.holds Try.pinned (OpenSpec.ofChange rootSquaresSpec)

/-- ITS FALSE NEIGHBOUR: 'it returns false'. Refute it at one input. -/
def rootSquaresWrong : ChangeSpec := { name := "rootSquares", fn := fun _ => fun
  | [d1, d2] => { results := [.lit (.bool false)], args := [d1, d2] }
  | _ => none }
def RootSquaresWrongFalsely : Prop := rootSquaresRow.holds Try.pinned (OpenSpec.ofChange rootSquaresWrong)

/- THE SECOND FORM. 'bulk': how many values and letters a reading holds, each counted each time it is reached (what is shared counts as often as it is met; a slice's spare places count too). A statement '..UptoSaid' is the law's where the arguments, and the package variables that the reading takes, are together of bulk at most 1048576: NARROWER than '..Said'. Prove '..Said' where nothing that the law and all that it calls make is longer than what came in: it says more and counts as full. Else prove '..UptoSaid'. A law counts once. -/
mutual
def uptoBulk {H : Type} : DataW H → Nat
  | .lit (.string bytes) => bytes.length + 1
  | .lit _ => 1
  | .nil => 1
  | .ptr d => uptoBulk d + 1
  | .slice elems spare => uptoBulkAll elems + uptoBulkAll spare + 1
  | .agg parts => uptoBulkAll parts + 1
  | .iface _ d => uptoBulk d + 1
  | .map entries => uptoBulkEntries entries + 1
  | .held _ => 1
def uptoBulkAll {H : Type} : List (DataW H) → Nat
  | [] => 0
  | d :: r => uptoBulk d + uptoBulkAll r
def uptoBulkEntries {H : Type} : List (Lit × DataW H) → Nat
  | [] => 0
  | x :: r => uptoBulkEntry x + uptoBulkEntries r
def uptoBulkEntry {H : Type} : Lit × DataW H → Nat
  | (.string bytes, d) => bytes.length + uptoBulk d + 1
  | (_, d) => uptoBulk d + 1
 end
def uptoSmall : (H : Type) → List (DataW H) → Bool := fun _ ds => decide (uptoBulkAll ds ≤ 1048576)
def OpenSpec.upto (s : _root_.Go.ChangeSpec) : _root_.Go.OpenSpec := { _root_.Go.OpenSpec.ofChange s with cond := some uptoSmall }

/-- 'pinballlaw02.PolySigns', WHERE WHAT IT READS IS OF BULK AT MOST 1048576: true; the input reads as it did. -/
def polySignsUptoRow : OpenClaim := { program := "ythdpfjffdipipaa", sum := "db693e0e75e215768343078c2878bed50e2422937bae936496a3f2d7a714a174", func := "pinball/pinballlaw02.PolySigns", spec := "polySigns", apart := false, narrowed := true }
def PolySignsUptoSaid : Prop := polySignsUptoRow.holds Try.pinned (OpenSpec.upto polySignsSpec)

/-- 'pinballlaw03.SturmCounts', WHERE WHAT IT READS IS OF BULK AT MOST 1048576: true; the input reads as it did. -/
def sturmCountsUptoRow : OpenClaim := { program := "ythdpfjffdipipaa", sum := "db693e0e75e215768343078c2878bed50e2422937bae936496a3f2d7a714a174", func := "pinball/pinballlaw03.SturmCounts", spec := "sturmCounts", unfollowed := true, recurses := true, apart := false, narrowed := true }
def SturmCountsUptoSaid : Prop := sturmCountsUptoRow.holds Try.pinned (OpenSpec.upto sturmCountsSpec)

/-- 'pinballlaw03.SturmDyadics', WHERE WHAT IT READS IS OF BULK AT MOST 1048576: true; the input reads as it did. -/
def sturmDyadicsUptoRow : OpenClaim := { program := "ythdpfjffdipipaa", sum := "db693e0e75e215768343078c2878bed50e2422937bae936496a3f2d7a714a174", func := "pinball/pinballlaw03.SturmDyadics", spec := "sturmDyadics", unfollowed := true, recurses := true, apart := false, narrowed := true }
def SturmDyadicsUptoSaid : Prop := sturmDyadicsUptoRow.holds Try.pinned (OpenSpec.upto sturmDyadicsSpec)

/-- 'pinballlaw04.RootSquares', WHERE WHAT IT READS IS OF BULK AT MOST 1048576: true; the input reads as it did. -/
def rootSquaresUptoRow : OpenClaim := { program := "ythdpfjffdipipaa", sum := "db693e0e75e215768343078c2878bed50e2422937bae936496a3f2d7a714a174", func := "pinball/pinballlaw04.RootSquares", spec := "rootSquares", recurses := true, apart := false, narrowed := true }
def RootSquaresUptoSaid : Prop := rootSquaresUptoRow.holds Try.pinned (OpenSpec.upto rootSquaresSpec)

end Rows
end Go.Proofs.Ythdpfjffdipipaa
