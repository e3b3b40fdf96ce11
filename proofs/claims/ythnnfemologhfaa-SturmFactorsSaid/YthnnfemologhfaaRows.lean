/-
  No cell of these rows narrows 'for every input' (looked for: loops, veiled, ifaces, maps, wideKeys, modest, calm, conditions, laid).
  DERIVED. THE GIVEN ROWS OF THIS SEAT. 10 by the template 'for every input the law returns true; each argument reads behind the call as it read before'; 0 by the template 'total and deterministic' (their statements: YthnnfemologhfaaTotals.lean).
  GIVEN WITH THE SEED: the statements are not yours to turn. If you find one false, say at which input.
  Laid BY PROGRAM, IN A SANDBOX (cutbox-rows.mjs): the forced cells as the released guide's own fill.sh prints them over the translation 5d743c08d3889c2f… (all of the seat's roots in one cut). By AI agents, Wed Nov 11 2026. No macro, syntax, notation, axiom, sorry.
-/
import Derived.Test.YthnnfemologhfaaChecked
import GoSem.Claim
import GoSem.ClaimJoined
import GoSem.ClaimMapViews
import Derived.JoinedTies
import Derived.KernelRfl
namespace Go.Proofs.Ythnnfemologhfaa
/- THE CELL 'sum', in the pinned program and in every row, IS THE sha256 OF THE DUMP (.gsa) THAT YthnnfemologhfaaProg.lean LOADS. Nothing in Lean hashes anything: it is a label: what it is worth is what the hold of that sum in a sandbox is worth. -/
noncomputable def Try.pinned : Pinned := { name := "ythnnfemologhfaa", sum := "5d743c08d3889c2fe298ab13eb451abce5d6902272badf8dce0ca8ee95b13815", checked := Try.checked }
namespace Rows
def none {H : Type} : Left H := { results := [], args := [] }

/-- 'pinballlaw02.PolyRemainders': WHATEVER THE INPUT: true; the input reads as it did. -/
def polyRemaindersSpec : ChangeSpec := { name := "polyRemainders", fn := fun _ => fun
  | [d1, d2] => { results := [.lit (.bool true)], args := [d1, d2] }
  | _ => none }
def polyRemaindersRow : OpenClaim := { program := "ythnnfemologhfaa", sum := "5d743c08d3889c2fe298ab13eb451abce5d6902272badf8dce0ca8ee95b13815", func := "pinball/pinballlaw02.PolyRemainders", spec := "polyRemainders", apart := false }
def PolyRemaindersSaid : Prop := polyRemaindersRow.holds Try.pinned (OpenSpec.ofChange polyRemaindersSpec)

/-- ITS FALSE NEIGHBOUR: 'it returns false'. Refute it at one input. -/
def polyRemaindersWrong : ChangeSpec := { name := "polyRemainders", fn := fun _ => fun
  | [d1, d2] => { results := [.lit (.bool false)], args := [d1, d2] }
  | _ => none }
def PolyRemaindersWrongFalsely : Prop := polyRemaindersRow.holds Try.pinned (OpenSpec.ofChange polyRemaindersWrong)

/-- 'pinballlaw02.PolyCommon': WHATEVER THE INPUT: true; the input reads as it did. -/
def polyCommonSpec : ChangeSpec := { name := "polyCommon", fn := fun _ => fun
  | [d1, d2, d3] => { results := [.lit (.bool true)], args := [d1, d2, d3] }
  | _ => none }
def polyCommonRow : OpenClaim := { program := "ythnnfemologhfaa", sum := "5d743c08d3889c2fe298ab13eb451abce5d6902272badf8dce0ca8ee95b13815", func := "pinball/pinballlaw02.PolyCommon", spec := "polyCommon", apart := false }
def PolyCommonSaid : Prop := polyCommonRow.holds Try.pinned (OpenSpec.ofChange polyCommonSpec)

/-- ITS FALSE NEIGHBOUR: 'it returns false'. Refute it at one input. -/
def polyCommonWrong : ChangeSpec := { name := "polyCommon", fn := fun _ => fun
  | [d1, d2, d3] => { results := [.lit (.bool false)], args := [d1, d2, d3] }
  | _ => none }
def PolyCommonWrongFalsely : Prop := polyCommonRow.holds Try.pinned (OpenSpec.ofChange polyCommonWrong)

/-- 'pinballlaw02.PolyFree': WHATEVER THE INPUT: true; the input reads as it did. -/
def polyFreeSpec : ChangeSpec := { name := "polyFree", fn := fun _ => fun
  | [d1, d2, d3] => { results := [.lit (.bool true)], args := [d1, d2, d3] }
  | _ => none }
def polyFreeRow : OpenClaim := { program := "ythnnfemologhfaa", sum := "5d743c08d3889c2fe298ab13eb451abce5d6902272badf8dce0ca8ee95b13815", func := "pinball/pinballlaw02.PolyFree", spec := "polyFree", apart := false }
def PolyFreeSaid : Prop := polyFreeRow.holds Try.pinned (OpenSpec.ofChange polyFreeSpec)

/-- ITS FALSE NEIGHBOUR: 'it returns false'. Refute it at one input. -/
def polyFreeWrong : ChangeSpec := { name := "polyFree", fn := fun _ => fun
  | [d1, d2, d3] => { results := [.lit (.bool false)], args := [d1, d2, d3] }
  | _ => none }
def PolyFreeWrongFalsely : Prop := polyFreeRow.holds Try.pinned (OpenSpec.ofChange polyFreeWrong)

/-- 'pinballlaw02.PolySigns': WHATEVER THE INPUT: true; the input reads as it did. -/
def polySignsSpec : ChangeSpec := { name := "polySigns", fn := fun _ => fun
  | [d1, d2] => { results := [.lit (.bool true)], args := [d1, d2] }
  | _ => none }
def polySignsRow : OpenClaim := { program := "ythnnfemologhfaa", sum := "5d743c08d3889c2fe298ab13eb451abce5d6902272badf8dce0ca8ee95b13815", func := "pinball/pinballlaw02.PolySigns", spec := "polySigns", apart := false }
def PolySignsSaid : Prop := polySignsRow.holds Try.pinned (OpenSpec.ofChange polySignsSpec)

/-- ITS FALSE NEIGHBOUR: 'it returns false'. Refute it at one input. -/
def polySignsWrong : ChangeSpec := { name := "polySigns", fn := fun _ => fun
  | [d1, d2] => { results := [.lit (.bool false)], args := [d1, d2] }
  | _ => none }
def PolySignsWrongFalsely : Prop := polySignsRow.holds Try.pinned (OpenSpec.ofChange polySignsWrong)

/-- 'pinballlaw02.PolyExact': WHATEVER THE INPUT: true; the input reads as it did. -/
def polyExactSpec : ChangeSpec := { name := "polyExact", fn := fun _ => fun
  | [d1, d2] => { results := [.lit (.bool true)], args := [d1, d2] }
  | _ => none }
def polyExactRow : OpenClaim := { program := "ythnnfemologhfaa", sum := "5d743c08d3889c2fe298ab13eb451abce5d6902272badf8dce0ca8ee95b13815", func := "pinball/pinballlaw02.PolyExact", spec := "polyExact", apart := false }
def PolyExactSaid : Prop := polyExactRow.holds Try.pinned (OpenSpec.ofChange polyExactSpec)

/-- ITS FALSE NEIGHBOUR: 'it returns false'. Refute it at one input. -/
def polyExactWrong : ChangeSpec := { name := "polyExact", fn := fun _ => fun
  | [d1, d2] => { results := [.lit (.bool false)], args := [d1, d2] }
  | _ => none }
def PolyExactWrongFalsely : Prop := polyExactRow.holds Try.pinned (OpenSpec.ofChange polyExactWrong)

/-- 'pinballlaw02.PolyLimits': WHATEVER THE INPUT: true; the input reads as it did. -/
def polyLimitsSpec : ChangeSpec := { name := "polyLimits", fn := fun _ => fun
  | [d] => { results := [.lit (.bool true)], args := [d] }
  | _ => none }
def polyLimitsRow : OpenClaim := { program := "ythnnfemologhfaa", sum := "5d743c08d3889c2fe298ab13eb451abce5d6902272badf8dce0ca8ee95b13815", func := "pinball/pinballlaw02.PolyLimits", spec := "polyLimits", apart := false }
def PolyLimitsSaid : Prop := polyLimitsRow.holds Try.pinned (OpenSpec.ofChange polyLimitsSpec)

/-- ITS FALSE NEIGHBOUR: 'it returns false'. Refute it at one input. -/
def polyLimitsWrong : ChangeSpec := { name := "polyLimits", fn := fun _ => fun
  | [d] => { results := [.lit (.bool false)], args := [d] }
  | _ => none }
def PolyLimitsWrongFalsely : Prop := polyLimitsRow.holds Try.pinned (OpenSpec.ofChange polyLimitsWrong)

/-- 'pinballlaw03.SturmCounts': WHATEVER THE INPUT: true; the input reads as it did. -/
def sturmCountsSpec : ChangeSpec := { name := "sturmCounts", fn := fun _ => fun
  | [d1, d2, d3] => { results := [.lit (.bool true)], args := [d1, d2, d3] }
  | _ => none }
def sturmCountsRow : OpenClaim := { program := "ythnnfemologhfaa", sum := "5d743c08d3889c2fe298ab13eb451abce5d6902272badf8dce0ca8ee95b13815", func := "pinball/pinballlaw03.SturmCounts", spec := "sturmCounts", unfollowed := true, recurses := true, apart := false }
def SturmCountsSaid : Prop := sturmCountsRow.holds Try.pinned (OpenSpec.ofChange sturmCountsSpec)

/-- ITS FALSE NEIGHBOUR: 'it returns false'. Refute it at one input. -/
def sturmCountsWrong : ChangeSpec := { name := "sturmCounts", fn := fun _ => fun
  | [d1, d2, d3] => { results := [.lit (.bool false)], args := [d1, d2, d3] }
  | _ => none }
def SturmCountsWrongFalsely : Prop := sturmCountsRow.holds Try.pinned (OpenSpec.ofChange sturmCountsWrong)

/-- 'pinballlaw03.SturmFactors': WHATEVER THE INPUT: true; the input reads as it did. -/
def sturmFactorsSpec : ChangeSpec := { name := "sturmFactors", fn := fun _ => fun
  | [d1, d2, d3] => { results := [.lit (.bool true)], args := [d1, d2, d3] }
  | _ => none }
def sturmFactorsRow : OpenClaim := { program := "ythnnfemologhfaa", sum := "5d743c08d3889c2fe298ab13eb451abce5d6902272badf8dce0ca8ee95b13815", func := "pinball/pinballlaw03.SturmFactors", spec := "sturmFactors", unfollowed := true, recurses := true, apart := false }
def SturmFactorsSaid : Prop := sturmFactorsRow.holds Try.pinned (OpenSpec.ofChange sturmFactorsSpec)

/-- ITS FALSE NEIGHBOUR: 'it returns false'. Refute it at one input. -/
def sturmFactorsWrong : ChangeSpec := { name := "sturmFactors", fn := fun _ => fun
  | [d1, d2, d3] => { results := [.lit (.bool false)], args := [d1, d2, d3] }
  | _ => none }
def SturmFactorsWrongFalsely : Prop := sturmFactorsRow.holds Try.pinned (OpenSpec.ofChange sturmFactorsWrong)

/-- 'pinballlaw03.SturmAdds': WHATEVER THE INPUT: true; the input reads as it did. -/
def sturmAddsSpec : ChangeSpec := { name := "sturmAdds", fn := fun _ => fun
  | [d1, d2] => { results := [.lit (.bool true)], args := [d1, d2] }
  | _ => none }
def sturmAddsRow : OpenClaim := { program := "ythnnfemologhfaa", sum := "5d743c08d3889c2fe298ab13eb451abce5d6902272badf8dce0ca8ee95b13815", func := "pinball/pinballlaw03.SturmAdds", spec := "sturmAdds", unfollowed := true, recurses := true, apart := false }
def SturmAddsSaid : Prop := sturmAddsRow.holds Try.pinned (OpenSpec.ofChange sturmAddsSpec)

/-- ITS FALSE NEIGHBOUR: 'it returns false'. Refute it at one input. -/
def sturmAddsWrong : ChangeSpec := { name := "sturmAdds", fn := fun _ => fun
  | [d1, d2] => { results := [.lit (.bool false)], args := [d1, d2] }
  | _ => none }
def SturmAddsWrongFalsely : Prop := sturmAddsRow.holds Try.pinned (OpenSpec.ofChange sturmAddsWrong)

/-- 'pinballlaw03.SturmDyadics': WHATEVER THE INPUT: true; the input reads as it did. -/
def sturmDyadicsSpec : ChangeSpec := { name := "sturmDyadics", fn := fun _ => fun
  | [d1, d2] => { results := [.lit (.bool true)], args := [d1, d2] }
  | _ => none }
def sturmDyadicsRow : OpenClaim := { program := "ythnnfemologhfaa", sum := "5d743c08d3889c2fe298ab13eb451abce5d6902272badf8dce0ca8ee95b13815", func := "pinball/pinballlaw03.SturmDyadics", spec := "sturmDyadics", unfollowed := true, recurses := true, apart := false }
def SturmDyadicsSaid : Prop := sturmDyadicsRow.holds Try.pinned (OpenSpec.ofChange sturmDyadicsSpec)

/-- ITS FALSE NEIGHBOUR: 'it returns false'. Refute it at one input. -/
def sturmDyadicsWrong : ChangeSpec := { name := "sturmDyadics", fn := fun _ => fun
  | [d1, d2] => { results := [.lit (.bool false)], args := [d1, d2] }
  | _ => none }
def SturmDyadicsWrongFalsely : Prop := sturmDyadicsRow.holds Try.pinned (OpenSpec.ofChange sturmDyadicsWrong)

/- THE SECOND FORM. 'bulk': how many values and letters a reading holds, each counted each time it is reached (what is shared counts as often as it is met; a slice's spare places count too). A statement '..UptoSaid' is the law's where the arguments, and the package variables that the reading takes, are together of bulk at most 1048576: NARROWER than '..Said'. Prove '..Said' where nothing that the law and all that it calls make is longer than what came in: it says more and counts as full. Else prove '..UptoSaid'. A law counts once. -/
mutual
def uptoBulk {H : Type} : DataW H → Nat
  | .lit (.string bytes) => bytes.length + 1
  | .lit _ => 1
  | .nil => 1
  | .ptr d => uptoBulk d + 1
  | .slice elems spare => uptoBulkAll elems + uptoBulkAll spare + 1
  | .agg parts => uptoBulkAll parts + 1
  | .iface _ d => uptoBulk d + 1
  | .map entries => uptoBulkEntries entries + 1
  | .held _ => 1
def uptoBulkAll {H : Type} : List (DataW H) → Nat
  | [] => 0
  | d :: r => uptoBulk d + uptoBulkAll r
def uptoBulkEntries {H : Type} : List (Lit × DataW H) → Nat
  | [] => 0
  | x :: r => uptoBulkEntry x + uptoBulkEntries r
def uptoBulkEntry {H : Type} : Lit × DataW H → Nat
  | (.string bytes, d) => bytes.length + uptoBulk d + 1
  | (_, d) => uptoBulk d + 1
 end
def uptoSmall : (H : Type) → List (DataW H) → Bool := fun _ ds => decide (uptoBulkAll ds ≤ 1048576)
def OpenSpec.upto (s : _root_.Go.ChangeSpec) : _root_.Go.OpenSpec := { _root_.Go.OpenSpec.ofChange s with cond := some uptoSmall }

/-- 'pinballlaw02.PolyRemainders', WHERE WHAT IT READS IS OF BULK AT MOST 1048576: true; the input reads as it did. -/
def polyRemaindersUptoRow : OpenClaim := { program := "ythnnfemologhfaa", sum := "5d743c08d3889c2fe298ab13eb451abce5d6902272badf8dce0ca8ee95b13815", func := "pinball/pinballlaw02.PolyRemainders", spec := "polyRemainders", apart := false, narrowed := true }
def PolyRemaindersUptoSaid : Prop := polyRemaindersUptoRow.holds Try.pinned (OpenSpec.upto polyRemaindersSpec)

/-- 'pinballlaw02.PolyCommon', WHERE WHAT IT READS IS OF BULK AT MOST 1048576: true; the input reads as it did. -/
def polyCommonUptoRow : OpenClaim := { program := "ythnnfemologhfaa", sum := "5d743c08d3889c2fe298ab13eb451abce5d6902272badf8dce0ca8ee95b13815", func := "pinball/pinballlaw02.PolyCommon", spec := "polyCommon", apart := false, narrowed := true }
def PolyCommonUptoSaid : Prop := polyCommonUptoRow.holds Try.pinned (OpenSpec.upto polyCommonSpec)

/-- 'pinballlaw02.PolyFree', WHERE WHAT IT READS IS OF BULK AT MOST 1048576: true; the input reads as it did. -/
def polyFreeUptoRow : OpenClaim := { program := "ythnnfemologhfaa", sum := "5d743c08d3889c2fe298ab13eb451abce5d6902272badf8dce0ca8ee95b13815", func := "pinball/pinballlaw02.PolyFree", spec := "polyFree", apart := false, narrowed := true }
def PolyFreeUptoSaid : Prop := polyFreeUptoRow.holds Try.pinned (OpenSpec.upto polyFreeSpec)

/-- 'pinballlaw02.PolySigns', WHERE WHAT IT READS IS OF BULK AT MOST 1048576: true; the input reads as it did. -/
def polySignsUptoRow : OpenClaim := { program := "ythnnfemologhfaa", sum := "5d743c08d3889c2fe298ab13eb451abce5d6902272badf8dce0ca8ee95b13815", func := "pinball/pinballlaw02.PolySigns", spec := "polySigns", apart := false, narrowed := true }
def PolySignsUptoSaid : Prop := polySignsUptoRow.holds Try.pinned (OpenSpec.upto polySignsSpec)

/-- 'pinballlaw02.PolyExact', WHERE WHAT IT READS IS OF BULK AT MOST 1048576: true; the input reads as it did. -/
def polyExactUptoRow : OpenClaim := { program := "ythnnfemologhfaa", sum := "5d743c08d3889c2fe298ab13eb451abce5d6902272badf8dce0ca8ee95b13815", func := "pinball/pinballlaw02.PolyExact", spec := "polyExact", apart := false, narrowed := true }
def PolyExactUptoSaid : Prop := polyExactUptoRow.holds Try.pinned (OpenSpec.upto polyExactSpec)

/-- 'pinballlaw02.PolyLimits', WHERE WHAT IT READS IS OF BULK AT MOST 1048576: true; the input reads as it did. -/
def polyLimitsUptoRow : OpenClaim := { program := "ythnnfemologhfaa", sum := "5d743c08d3889c2fe298ab13eb451abce5d6902272badf8dce0ca8ee95b13815", func := "pinball/pinballlaw02.PolyLimits", spec := "polyLimits", apart := false, narrowed := true }
def PolyLimitsUptoSaid : Prop := polyLimitsUptoRow.holds Try.pinned (OpenSpec.upto polyLimitsSpec)

/-- 'pinballlaw03.SturmCounts', WHERE WHAT IT READS IS OF BULK AT MOST 1048576: true; the input reads as it did. -/
def sturmCountsUptoRow : OpenClaim := { program := "ythnnfemologhfaa", sum := "5d743c08d3889c2fe298ab13eb451abce5d6902272badf8dce0ca8ee95b13815", func := "pinball/pinballlaw03.SturmCounts", spec := "sturmCounts", unfollowed := true, recurses := true, apart := false, narrowed := true }
def SturmCountsUptoSaid : Prop := sturmCountsUptoRow.holds Try.pinned (OpenSpec.upto sturmCountsSpec)

/-- 'pinballlaw03.SturmFactors', WHERE WHAT IT READS IS OF BULK AT MOST 1048576: true; the input reads as it did. -/
def sturmFactorsUptoRow : OpenClaim := { program := "ythnnfemologhfaa", sum := "5d743c08d3889c2fe298ab13eb451abce5d6902272badf8dce0ca8ee95b13815", func := "pinball/pinballlaw03.SturmFactors", spec := "sturmFactors", unfollowed := true, recurses := true, apart := false, narrowed := true }
def SturmFactorsUptoSaid : Prop := sturmFactorsUptoRow.holds Try.pinned (OpenSpec.upto sturmFactorsSpec)

/-- 'pinballlaw03.SturmAdds', WHERE WHAT IT READS IS OF BULK AT MOST 1048576: true; the input reads as it did. -/
def sturmAddsUptoRow : OpenClaim := { program := "ythnnfemologhfaa", sum := "5d743c08d3889c2fe298ab13eb451abce5d6902272badf8dce0ca8ee95b13815", func := "pinball/pinballlaw03.SturmAdds", spec := "sturmAdds", unfollowed := true, recurses := true, apart := false, narrowed := true }
def SturmAddsUptoSaid : Prop := sturmAddsUptoRow.holds Try.pinned (OpenSpec.upto sturmAddsSpec)

/-- 'pinballlaw03.SturmDyadics', WHERE WHAT IT READS IS OF BULK AT MOST 1048576: true; the input reads as it did. -/
def sturmDyadicsUptoRow : OpenClaim := { program := "ythnnfemologhfaa", sum := "5d743c08d3889c2fe298ab13eb451abce5d6902272badf8dce0ca8ee95b13815", func := "pinball/pinballlaw03.SturmDyadics", spec := "sturmDyadics", unfollowed := true, recurses := true, apart := false, narrowed := true }
def SturmDyadicsUptoSaid : Prop := sturmDyadicsUptoRow.holds Try.pinned (OpenSpec.upto sturmDyadicsSpec)

end Rows
end Go.Proofs.Ythnnfemologhfaa
