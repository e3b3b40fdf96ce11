/-
  No cell of these rows narrows 'for every input' (looked for: loops, veiled, ifaces, maps, wideKeys, modest, calm, conditions, laid).
  DERIVED. THE GIVEN ROWS OF THIS SEAT. 4 by the template 'for every input the law returns true; each argument reads behind the call as it read before'; 0 by the template 'total and deterministic' (their statements: YthakfjlnhldehaaGreatTotals.lean).
  GIVEN WITH THE SEED: the statements are not yours to turn. If you find one false, say at which input.
  Laid BY PROGRAM, IN A SANDBOX (cutbox-rows.mjs): the forced cells as the released guide's own fill.sh prints them over the translation 5eb8a2c3391e188b… (all of the seat's roots in one cut). By AI agents, Wed Nov 11 2026. No macro, syntax, notation, axiom, sorry.
-/
import Derived.Test.YthakfjlnhldehaaGreatChecked
import GoSem.Claim
import GoSem.ClaimJoined
import GoSem.ClaimMapViews
import Derived.JoinedTies
import Derived.KernelRfl
namespace Go.Proofs.YthakfjlnhldehaaGreat
/- THE CELL 'sum', in the pinned program and in every row, IS THE sha256 OF THE DUMP (.gsa) THAT YthakfjlnhldehaaGreatProg.lean LOADS. Nothing in Lean hashes anything: it is a label: what it is worth is what the hold of that sum in a sandbox is worth. -/
noncomputable def Tryz.pinned : Pinned := { name := "ythakfjlnhldehaagreat", sum := "5eb8a2c3391e188b08660ee9416bd5c943b7088ab8d2670a19eaf1160151bb79", checked := Tryz.checked }
namespace Rows
def none {H : Type} : Left H := { results := [], args := [] }

/-- 'pinballlaw11.WallPlaces': WHATEVER THE INPUT: true; the input reads as it did. -/
def wallPlacesSpec : ChangeSpec := { name := "wallPlaces", fn := fun _ => fun
  | [d1, d2, d3] => { results := [.lit (.bool true)], args := [d1, d2, d3] }
  | _ => none }
def wallPlacesRow : OpenClaim := { program := "ythakfjlnhldehaagreat", sum := "5eb8a2c3391e188b08660ee9416bd5c943b7088ab8d2670a19eaf1160151bb79", func := "pinball/pinballlaw11.WallPlaces", spec := "wallPlaces", recurses := true, apart := false }
def WallPlacesSaid : Prop := wallPlacesRow.holds Tryz.pinned (OpenSpec.ofChange wallPlacesSpec)

/-- ITS FALSE NEIGHBOUR: 'it returns false'. Refute it at one input. -/
def wallPlacesWrong : ChangeSpec := { name := "wallPlaces", fn := fun _ => fun
  | [d1, d2, d3] => { results := [.lit (.bool false)], args := [d1, d2, d3] }
  | _ => none }
def WallPlacesWrongFalsely : Prop := wallPlacesRow.holds Tryz.pinned (OpenSpec.ofChange wallPlacesWrong)

/-- 'pinballlaw11.WallSamples': WHATEVER THE INPUT: true; the input reads as it did. -/
def wallSamplesSpec : ChangeSpec := { name := "wallSamples", fn := fun _ => fun
  | [d1, d2, d3] => { results := [.lit (.bool true)], args := [d1, d2, d3] }
  | _ => none }
def wallSamplesRow : OpenClaim := { program := "ythakfjlnhldehaagreat", sum := "5eb8a2c3391e188b08660ee9416bd5c943b7088ab8d2670a19eaf1160151bb79", func := "pinball/pinballlaw11.WallSamples", spec := "wallSamples", recurses := true, apart := false }
def WallSamplesSaid : Prop := wallSamplesRow.holds Tryz.pinned (OpenSpec.ofChange wallSamplesSpec)

/-- ITS FALSE NEIGHBOUR: 'it returns false'. Refute it at one input. -/
def wallSamplesWrong : ChangeSpec := { name := "wallSamples", fn := fun _ => fun
  | [d1, d2, d3] => { results := [.lit (.bool false)], args := [d1, d2, d3] }
  | _ => none }
def WallSamplesWrongFalsely : Prop := wallSamplesRow.holds Tryz.pinned (OpenSpec.ofChange wallSamplesWrong)

/-- 'pinballlaw11.WallNormals': WHATEVER THE INPUT: true; the input reads as it did. -/
def wallNormalsSpec : ChangeSpec := { name := "wallNormals", fn := fun _ => fun
  | [d1, d2, d3] => { results := [.lit (.bool true)], args := [d1, d2, d3] }
  | _ => none }
def wallNormalsRow : OpenClaim := { program := "ythakfjlnhldehaagreat", sum := "5eb8a2c3391e188b08660ee9416bd5c943b7088ab8d2670a19eaf1160151bb79", func := "pinball/pinballlaw11.WallNormals", spec := "wallNormals", recurses := true, apart := false }
def WallNormalsSaid : Prop := wallNormalsRow.holds Tryz.pinned (OpenSpec.ofChange wallNormalsSpec)

/-- ITS FALSE NEIGHBOUR: 'it returns false'. Refute it at one input. -/
def wallNormalsWrong : ChangeSpec := { name := "wallNormals", fn := fun _ => fun
  | [d1, d2, d3] => { results := [.lit (.bool false)], args := [d1, d2, d3] }
  | _ => none }
def WallNormalsWrongFalsely : Prop := wallNormalsRow.holds Tryz.pinned (OpenSpec.ofChange wallNormalsWrong)

/-- 'pinballlaw11.WallSets': WHATEVER THE INPUT: true; the input reads as it did. -/
def wallSetsSpec : ChangeSpec := { name := "wallSets", fn := fun _ => fun
  | [d1, d2, d3] => { results := [.lit (.bool true)], args := [d1, d2, d3] }
  | _ => none }
def wallSetsRow : OpenClaim := { program := "ythakfjlnhldehaagreat", sum := "5eb8a2c3391e188b08660ee9416bd5c943b7088ab8d2670a19eaf1160151bb79", func := "pinball/pinballlaw11.WallSets", spec := "wallSets", recurses := true, apart := false }
def WallSetsSaid : Prop := wallSetsRow.holds Tryz.pinned (OpenSpec.ofChange wallSetsSpec)

/-- ITS FALSE NEIGHBOUR: 'it returns false'. Refute it at one input. -/
def wallSetsWrong : ChangeSpec := { name := "wallSets", fn := fun _ => fun
  | [d1, d2, d3] => { results := [.lit (.bool false)], args := [d1, d2, d3] }
  | _ => none }
def WallSetsWrongFalsely : Prop := wallSetsRow.holds Tryz.pinned (OpenSpec.ofChange wallSetsWrong)

/- THE SECOND FORM. 'bulk': how many values and letters a reading holds, each counted each time it is reached (what is shared counts as often as it is met; a slice's spare places count too). A statement '..UptoSaid' is the law's where the arguments, and the package variables that the reading takes, are together of bulk at most 1048576: NARROWER than '..Said'. Prove '..Said' where nothing that the law and all that it calls make is longer than what came in: it says more and counts as full. Else prove '..UptoSaid'. A law counts once. -/
mutual
def uptoBulk {H : Type} : DataW H → Nat
  | .lit (.string bytes) => bytes.length + 1
  | .lit _ => 1
  | .nil => 1
  | .ptr d => uptoBulk d + 1
  | .slice elems spare => uptoBulkAll elems + uptoBulkAll spare + 1
  | .agg parts => uptoBulkAll parts + 1
  | .iface _ d => uptoBulk d + 1
  | .map entries => uptoBulkEntries entries + 1
  | .held _ => 1
def uptoBulkAll {H : Type} : List (DataW H) → Nat
  | [] => 0
  | d :: r => uptoBulk d + uptoBulkAll r
def uptoBulkEntries {H : Type} : List (Lit × DataW H) → Nat
  | [] => 0
  | x :: r => uptoBulkEntry x + uptoBulkEntries r
def uptoBulkEntry {H : Type} : Lit × DataW H → Nat
  | (.string bytes, d) => bytes.length + uptoBulk d + 1
  | (_, d) => uptoBulk d + 1
 end
def uptoSmall : (H : Type) → List (DataW H) → Bool := fun _ ds => decide (uptoBulkAll ds ≤ 1048576)
def OpenSpec.upto (s : _root_.Go.ChangeSpec) : _root_.Go.OpenSpec := { _root_.Go.OpenSpec.ofChange s with cond := some uptoSmall }

/-- 'pinballlaw11.WallPlaces', WHERE WHAT IT READS IS OF BULK AT MOST 1048576: true; the input reads as it did. -/
def wallPlacesUptoRow : OpenClaim := { program := "ythakfjlnhldehaagreat", sum := "5eb8a2c3391e188b08660ee9416bd5c943b7088ab8d2670a19eaf1160151bb79", func := "pinball/pinballlaw11.WallPlaces", spec := "wallPlaces", recurses := true, apart := false, narrowed := true }
def WallPlacesUptoSaid : Prop := wallPlacesUptoRow.holds Tryz.pinned (OpenSpec.upto wallPlacesSpec)

/-- 'pinballlaw11.WallSamples', WHERE WHAT IT READS IS OF BULK AT MOST 1048576: true; the input reads as it did. -/
def wallSamplesUptoRow : OpenClaim := { program := "ythakfjlnhldehaagreat", sum := "5eb8a2c3391e188b08660ee9416bd5c943b7088ab8d2670a19eaf1160151bb79", func := "pinball/pinballlaw11.WallSamples", spec := "wallSamples", recurses := true, apart := false, narrowed := true }
def WallSamplesUptoSaid : Prop := wallSamplesUptoRow.holds Tryz.pinned (OpenSpec.upto wallSamplesSpec)

/-- 'pinballlaw11.WallNormals', WHERE WHAT IT READS IS OF BULK AT MOST 1048576: true; the input reads as it did. -/
def wallNormalsUptoRow : OpenClaim := { program := "ythakfjlnhldehaagreat", sum := "5eb8a2c3391e188b08660ee9416bd5c943b7088ab8d2670a19eaf1160151bb79", func := "pinball/pinballlaw11.WallNormals", spec := "wallNormals", recurses := true, apart := false, narrowed := true }
def WallNormalsUptoSaid : Prop := wallNormalsUptoRow.holds Tryz.pinned (OpenSpec.upto wallNormalsSpec)

/-- 'pinballlaw11.WallSets', WHERE WHAT IT READS IS OF BULK AT MOST 1048576: true; the input reads as it did. -/
def wallSetsUptoRow : OpenClaim := { program := "ythakfjlnhldehaagreat", sum := "5eb8a2c3391e188b08660ee9416bd5c943b7088ab8d2670a19eaf1160151bb79", func := "pinball/pinballlaw11.WallSets", spec := "wallSets", recurses := true, apart := false, narrowed := true }
def WallSetsUptoSaid : Prop := wallSetsUptoRow.holds Tryz.pinned (OpenSpec.upto wallSetsSpec)

end Rows
end Go.Proofs.YthakfjlnhldehaaGreat
