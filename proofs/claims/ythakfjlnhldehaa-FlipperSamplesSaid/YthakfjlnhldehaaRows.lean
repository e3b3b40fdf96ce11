/-
  No cell of these rows narrows 'for every input' (looked for: loops, veiled, ifaces, maps, wideKeys, modest, calm, conditions, laid).
  DERIVED. THE GIVEN ROWS OF THIS SEAT. 8 by the template 'for every input the law returns true; each argument reads behind the call as it read before'; 0 by the template 'total and deterministic' (their statements: YthakfjlnhldehaaTotals.lean).
  GIVEN WITH THE SEED: the statements are not yours to turn. If you find one false, say at which input.
  Laid BY PROGRAM, IN A SANDBOX (cutbox-rows.mjs): the forced cells as the released guide's own fill.sh prints them over the translation 8468dd37442bfb9e… (all of the seat's roots in one cut). By AI agents, Wed Nov 11 2026. No macro, syntax, notation, axiom, sorry.
-/
import Derived.Test.YthakfjlnhldehaaChecked
import GoSem.Claim
import GoSem.ClaimJoined
import GoSem.ClaimMapViews
import Derived.JoinedTies
import Derived.KernelRfl
namespace Go.Proofs.Ythakfjlnhldehaa
/- THE CELL 'sum', in the pinned program and in every row, IS THE sha256 OF THE DUMP (.gsa) THAT YthakfjlnhldehaaProg.lean LOADS. Nothing in Lean hashes anything: it is a label: what it is worth is what the hold of that sum in a sandbox is worth. -/
noncomputable def Try.pinned : Pinned := { name := "ythakfjlnhldehaa", sum := "8468dd37442bfb9ea14c2412bd32780ebb6448aa5aed89b78a179c2cd8e3549a", checked := Try.checked }
namespace Rows
def none {H : Type} : Left H := { results := [], args := [] }

/-- 'pinballlaw12.ArcMirror': WHATEVER THE INPUT: true; the input reads as it did. -/
def arcMirrorSpec : ChangeSpec := { name := "arcMirror", fn := fun _ => fun
  | [d1, d2, d3] => { results := [.lit (.bool true)], args := [d1, d2, d3] }
  | _ => none }
def arcMirrorRow : OpenClaim := { program := "ythakfjlnhldehaa", sum := "8468dd37442bfb9ea14c2412bd32780ebb6448aa5aed89b78a179c2cd8e3549a", func := "pinball/pinballlaw12.ArcMirror", spec := "arcMirror", apart := false }
def ArcMirrorSaid : Prop := arcMirrorRow.holds Try.pinned (OpenSpec.ofChange arcMirrorSpec)

/-- ITS FALSE NEIGHBOUR: 'it returns false'. Refute it at one input. -/
def arcMirrorWrong : ChangeSpec := { name := "arcMirror", fn := fun _ => fun
  | [d1, d2, d3] => { results := [.lit (.bool false)], args := [d1, d2, d3] }
  | _ => none }
def ArcMirrorWrongFalsely : Prop := arcMirrorRow.holds Try.pinned (OpenSpec.ofChange arcMirrorWrong)

/-- 'pinballlaw12.ArcCircle': WHATEVER THE INPUT: true; the input reads as it did. -/
def arcCircleSpec : ChangeSpec := { name := "arcCircle", fn := fun _ => fun
  | [d1, d2, d3] => { results := [.lit (.bool true)], args := [d1, d2, d3] }
  | _ => none }
def arcCircleRow : OpenClaim := { program := "ythakfjlnhldehaa", sum := "8468dd37442bfb9ea14c2412bd32780ebb6448aa5aed89b78a179c2cd8e3549a", func := "pinball/pinballlaw12.ArcCircle", spec := "arcCircle", apart := false }
def ArcCircleSaid : Prop := arcCircleRow.holds Try.pinned (OpenSpec.ofChange arcCircleSpec)

/-- ITS FALSE NEIGHBOUR: 'it returns false'. Refute it at one input. -/
def arcCircleWrong : ChangeSpec := { name := "arcCircle", fn := fun _ => fun
  | [d1, d2, d3] => { results := [.lit (.bool false)], args := [d1, d2, d3] }
  | _ => none }
def ArcCircleWrongFalsely : Prop := arcCircleRow.holds Try.pinned (OpenSpec.ofChange arcCircleWrong)

/-- 'pinballlaw13.FlipperSteps': WHATEVER THE INPUT: true; the input reads as it did. -/
def flipperStepsSpec : ChangeSpec := { name := "flipperSteps", fn := fun _ => fun
  | [d1, d2, d3] => { results := [.lit (.bool true)], args := [d1, d2, d3] }
  | _ => none }
def flipperStepsRow : OpenClaim := { program := "ythakfjlnhldehaa", sum := "8468dd37442bfb9ea14c2412bd32780ebb6448aa5aed89b78a179c2cd8e3549a", func := "pinball/pinballlaw13.FlipperSteps", spec := "flipperSteps", named := ["math/bits.divideError", "math/bits.overflowError"], apart := false }
def FlipperStepsSaid : Prop := flipperStepsRow.holds Try.pinned (OpenSpec.ofChange flipperStepsSpec)

/-- ITS FALSE NEIGHBOUR: 'it returns false'. Refute it at one input. -/
def flipperStepsWrong : ChangeSpec := { name := "flipperSteps", fn := fun _ => fun
  | [d1, d2, d3] => { results := [.lit (.bool false)], args := [d1, d2, d3] }
  | _ => none }
def FlipperStepsWrongFalsely : Prop := flipperStepsRow.holds Try.pinned (OpenSpec.ofChange flipperStepsWrong)

/-- 'pinballlaw13.FlipperRuns': WHATEVER THE INPUT: true; the input reads as it did. -/
def flipperRunsSpec : ChangeSpec := { name := "flipperRuns", fn := fun _ => fun
  | [d1, d2] => { results := [.lit (.bool true)], args := [d1, d2] }
  | _ => none }
def flipperRunsRow : OpenClaim := { program := "ythakfjlnhldehaa", sum := "8468dd37442bfb9ea14c2412bd32780ebb6448aa5aed89b78a179c2cd8e3549a", func := "pinball/pinballlaw13.FlipperRuns", spec := "flipperRuns", named := ["math/bits.divideError", "math/bits.overflowError"], apart := false }
def FlipperRunsSaid : Prop := flipperRunsRow.holds Try.pinned (OpenSpec.ofChange flipperRunsSpec)

/-- ITS FALSE NEIGHBOUR: 'it returns false'. Refute it at one input. -/
def flipperRunsWrong : ChangeSpec := { name := "flipperRuns", fn := fun _ => fun
  | [d1, d2] => { results := [.lit (.bool false)], args := [d1, d2] }
  | _ => none }
def FlipperRunsWrongFalsely : Prop := flipperRunsRow.holds Try.pinned (OpenSpec.ofChange flipperRunsWrong)

/-- 'pinballlaw13.FlipperLead': WHATEVER THE INPUT: true; the input reads as it did. -/
def flipperLeadSpec : ChangeSpec := { name := "flipperLead", fn := fun _ => fun
  | [d1, d2] => { results := [.lit (.bool true)], args := [d1, d2] }
  | _ => none }
def flipperLeadRow : OpenClaim := { program := "ythakfjlnhldehaa", sum := "8468dd37442bfb9ea14c2412bd32780ebb6448aa5aed89b78a179c2cd8e3549a", func := "pinball/pinballlaw13.FlipperLead", spec := "flipperLead", named := ["math/bits.divideError", "math/bits.overflowError"], apart := false }
def FlipperLeadSaid : Prop := flipperLeadRow.holds Try.pinned (OpenSpec.ofChange flipperLeadSpec)

/-- ITS FALSE NEIGHBOUR: 'it returns false'. Refute it at one input. -/
def flipperLeadWrong : ChangeSpec := { name := "flipperLead", fn := fun _ => fun
  | [d1, d2] => { results := [.lit (.bool false)], args := [d1, d2] }
  | _ => none }
def FlipperLeadWrongFalsely : Prop := flipperLeadRow.holds Try.pinned (OpenSpec.ofChange flipperLeadWrong)

/-- 'pinballlaw13.FlipperMirror': WHATEVER THE INPUT: true; the input reads as it did. -/
def flipperMirrorSpec : ChangeSpec := { name := "flipperMirror", fn := fun _ => fun
  | [d1, d2, d3] => { results := [.lit (.bool true)], args := [d1, d2, d3] }
  | _ => none }
def flipperMirrorRow : OpenClaim := { program := "ythakfjlnhldehaa", sum := "8468dd37442bfb9ea14c2412bd32780ebb6448aa5aed89b78a179c2cd8e3549a", func := "pinball/pinballlaw13.FlipperMirror", spec := "flipperMirror", named := ["math/bits.divideError", "math/bits.overflowError"], apart := false }
def FlipperMirrorSaid : Prop := flipperMirrorRow.holds Try.pinned (OpenSpec.ofChange flipperMirrorSpec)

/-- ITS FALSE NEIGHBOUR: 'it returns false'. Refute it at one input. -/
def flipperMirrorWrong : ChangeSpec := { name := "flipperMirror", fn := fun _ => fun
  | [d1, d2, d3] => { results := [.lit (.bool false)], args := [d1, d2, d3] }
  | _ => none }
def FlipperMirrorWrongFalsely : Prop := flipperMirrorRow.holds Try.pinned (OpenSpec.ofChange flipperMirrorWrong)

/-- 'pinballlaw12.ArcSamples': WHATEVER THE INPUT: true; the input reads as it did. -/
def arcSamplesSpec : ChangeSpec := { name := "arcSamples", fn := fun _ => fun
  | [d1, d2, d3] => { results := [.lit (.bool true)], args := [d1, d2, d3] }
  | _ => none }
def arcSamplesRow : OpenClaim := { program := "ythakfjlnhldehaa", sum := "8468dd37442bfb9ea14c2412bd32780ebb6448aa5aed89b78a179c2cd8e3549a", func := "pinball/pinballlaw12.ArcSamples", spec := "arcSamples", apart := false }
def ArcSamplesSaid : Prop := arcSamplesRow.holds Try.pinned (OpenSpec.ofChange arcSamplesSpec)

/-- ITS FALSE NEIGHBOUR: 'it returns false'. Refute it at one input. -/
def arcSamplesWrong : ChangeSpec := { name := "arcSamples", fn := fun _ => fun
  | [d1, d2, d3] => { results := [.lit (.bool false)], args := [d1, d2, d3] }
  | _ => none }
def ArcSamplesWrongFalsely : Prop := arcSamplesRow.holds Try.pinned (OpenSpec.ofChange arcSamplesWrong)

/-- 'pinballlaw13.FlipperSamples': WHATEVER THE INPUT: true; the input reads as it did. -/
def flipperSamplesSpec : ChangeSpec := { name := "flipperSamples", fn := fun _ => fun
  | [d1, d2, d3] => { results := [.lit (.bool true)], args := [d1, d2, d3] }
  | _ => none }
def flipperSamplesRow : OpenClaim := { program := "ythakfjlnhldehaa", sum := "8468dd37442bfb9ea14c2412bd32780ebb6448aa5aed89b78a179c2cd8e3549a", func := "pinball/pinballlaw13.FlipperSamples", spec := "flipperSamples", named := ["math/bits.divideError", "math/bits.overflowError"], apart := false }
def FlipperSamplesSaid : Prop := flipperSamplesRow.holds Try.pinned (OpenSpec.ofChange flipperSamplesSpec)

/-- ITS FALSE NEIGHBOUR: 'it returns false'. Refute it at one input. -/
def flipperSamplesWrong : ChangeSpec := { name := "flipperSamples", fn := fun _ => fun
  | [d1, d2, d3] => { results := [.lit (.bool false)], args := [d1, d2, d3] }
  | _ => none }
def FlipperSamplesWrongFalsely : Prop := flipperSamplesRow.holds Try.pinned (OpenSpec.ofChange flipperSamplesWrong)

/- THE SECOND FORM. 'bulk': how many values and letters a reading holds, each counted each time it is reached (what is shared counts as often as it is met; a slice's spare places count too). A statement '..UptoSaid' is the law's where the arguments, and the package variables that the reading takes, are together of bulk at most 1048576: NARROWER than '..Said'. Prove '..Said' where nothing that the law and all that it calls make is longer than what came in: it says more and counts as full. Else prove '..UptoSaid'. A law counts once. -/
mutual
def uptoBulk {H : Type} : DataW H → Nat
  | .lit (.string bytes) => bytes.length + 1
  | .lit _ => 1
  | .nil => 1
  | .ptr d => uptoBulk d + 1
  | .slice elems spare => uptoBulkAll elems + uptoBulkAll spare + 1
  | .agg parts => uptoBulkAll parts + 1
  | .iface _ d => uptoBulk d + 1
  | .map entries => uptoBulkEntries entries + 1
  | .held _ => 1
def uptoBulkAll {H : Type} : List (DataW H) → Nat
  | [] => 0
  | d :: r => uptoBulk d + uptoBulkAll r
def uptoBulkEntries {H : Type} : List (Lit × DataW H) → Nat
  | [] => 0
  | x :: r => uptoBulkEntry x + uptoBulkEntries r
def uptoBulkEntry {H : Type} : Lit × DataW H → Nat
  | (.string bytes, d) => bytes.length + uptoBulk d + 1
  | (_, d) => uptoBulk d + 1
 end
def uptoSmall : (H : Type) → List (DataW H) → Bool := fun _ ds => decide (uptoBulkAll ds ≤ 1048576)
def OpenSpec.upto (s : _root_.Go.ChangeSpec) : _root_.Go.OpenSpec := { _root_.Go.OpenSpec.ofChange s with cond := some uptoSmall }

/-- 'pinballlaw12.ArcMirror', WHERE WHAT IT READS IS OF BULK AT MOST 1048576: true; the input reads as it did. -/
def arcMirrorUptoRow : OpenClaim := { program := "ythakfjlnhldehaa", sum := "8468dd37442bfb9ea14c2412bd32780ebb6448aa5aed89b78a179c2cd8e3549a", func := "pinball/pinballlaw12.ArcMirror", spec := "arcMirror", apart := false, narrowed := true }
def ArcMirrorUptoSaid : Prop := arcMirrorUptoRow.holds Try.pinned (OpenSpec.upto arcMirrorSpec)

/-- 'pinballlaw12.ArcCircle', WHERE WHAT IT READS IS OF BULK AT MOST 1048576: true; the input reads as it did. -/
def arcCircleUptoRow : OpenClaim := { program := "ythakfjlnhldehaa", sum := "8468dd37442bfb9ea14c2412bd32780ebb6448aa5aed89b78a179c2cd8e3549a", func := "pinball/pinballlaw12.ArcCircle", spec := "arcCircle", apart := false, narrowed := true }
def ArcCircleUptoSaid : Prop := arcCircleUptoRow.holds Try.pinned (OpenSpec.upto arcCircleSpec)

/-- 'pinballlaw13.FlipperSteps', WHERE WHAT IT READS IS OF BULK AT MOST 1048576: true; the input reads as it did. -/
def flipperStepsUptoRow : OpenClaim := { program := "ythakfjlnhldehaa", sum := "8468dd37442bfb9ea14c2412bd32780ebb6448aa5aed89b78a179c2cd8e3549a", func := "pinball/pinballlaw13.FlipperSteps", spec := "flipperSteps", named := ["math/bits.divideError", "math/bits.overflowError"], apart := false, narrowed := true }
def FlipperStepsUptoSaid : Prop := flipperStepsUptoRow.holds Try.pinned (OpenSpec.upto flipperStepsSpec)

/-- 'pinballlaw13.FlipperRuns', WHERE WHAT IT READS IS OF BULK AT MOST 1048576: true; the input reads as it did. -/
def flipperRunsUptoRow : OpenClaim := { program := "ythakfjlnhldehaa", sum := "8468dd37442bfb9ea14c2412bd32780ebb6448aa5aed89b78a179c2cd8e3549a", func := "pinball/pinballlaw13.FlipperRuns", spec := "flipperRuns", named := ["math/bits.divideError", "math/bits.overflowError"], apart := false, narrowed := true }
def FlipperRunsUptoSaid : Prop := flipperRunsUptoRow.holds Try.pinned (OpenSpec.upto flipperRunsSpec)

/-- 'pinballlaw13.FlipperLead', WHERE WHAT IT READS IS OF BULK AT MOST 1048576: true; the input reads as it did. -/
def flipperLeadUptoRow : OpenClaim := { program := "ythakfjlnhldehaa", sum := "8468dd37442bfb9ea14c2412bd32780ebb6448aa5aed89b78a179c2cd8e3549a", func := "pinball/pinballlaw13.FlipperLead", spec := "flipperLead", named := ["math/bits.divideError", "math/bits.overflowError"], apart := false, narrowed := true }
def FlipperLeadUptoSaid : Prop := flipperLeadUptoRow.holds Try.pinned (OpenSpec.upto flipperLeadSpec)

/-- 'pinballlaw13.FlipperMirror', WHERE WHAT IT READS IS OF BULK AT MOST 1048576: true; the input reads as it did. -/
def flipperMirrorUptoRow : OpenClaim := { program := "ythakfjlnhldehaa", sum := "8468dd37442bfb9ea14c2412bd32780ebb6448aa5aed89b78a179c2cd8e3549a", func := "pinball/pinballlaw13.FlipperMirror", spec := "flipperMirror", named := ["math/bits.divideError", "math/bits.overflowError"], apart := false, narrowed := true }
def FlipperMirrorUptoSaid : Prop := flipperMirrorUptoRow.holds Try.pinned (OpenSpec.upto flipperMirrorSpec)

/-- 'pinballlaw12.ArcSamples', WHERE WHAT IT READS IS OF BULK AT MOST 1048576: true; the input reads as it did. -/
def arcSamplesUptoRow : OpenClaim := { program := "ythakfjlnhldehaa", sum := "8468dd37442bfb9ea14c2412bd32780ebb6448aa5aed89b78a179c2cd8e3549a", func := "pinball/pinballlaw12.ArcSamples", spec := "arcSamples", apart := false, narrowed := true }
def ArcSamplesUptoSaid : Prop := arcSamplesUptoRow.holds Try.pinned (OpenSpec.upto arcSamplesSpec)

/-- 'pinballlaw13.FlipperSamples', WHERE WHAT IT READS IS OF BULK AT MOST 1048576: true; the input reads as it did. -/
def flipperSamplesUptoRow : OpenClaim := { program := "ythakfjlnhldehaa", sum := "8468dd37442bfb9ea14c2412bd32780ebb6448aa5aed89b78a179c2cd8e3549a", func := "pinball/pinballlaw13.FlipperSamples", spec := "flipperSamples", named := ["math/bits.divideError", "math/bits.overflowError"], apart := false, narrowed := true }
def FlipperSamplesUptoSaid : Prop := flipperSamplesUptoRow.holds Try.pinned (OpenSpec.upto flipperSamplesSpec)

end Rows
end Go.Proofs.Ythakfjlnhldehaa
