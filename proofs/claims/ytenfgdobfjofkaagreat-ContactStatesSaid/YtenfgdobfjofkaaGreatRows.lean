/-
  No cell of these rows narrows 'for every input' (looked for: loops, veiled, ifaces, maps, wideKeys, modest, calm, conditions, laid).
  DERIVED. THE GIVEN ROWS OF THIS SEAT. 5 by the template 'for every input the law returns true; each argument reads behind the call as it read before'; 0 by the template 'total and deterministic' (their statements: YtenfgdobfjofkaaGreatTotals.lean).
  GIVEN WITH THE SEED: the statements are not yours to turn. If you find one false, say at which input.
  Laid BY PROGRAM, IN A SANDBOX (cutbox-rows.mjs): the forced cells as the released guide's own fill.sh prints them over the translation 15fab234b5c9558b… (all of the seat's roots in one cut). By AI agents, Wed Nov 11 2026. No macro, syntax, notation, axiom, sorry.
-/
import Derived.Test.YtenfgdobfjofkaaGreatChecked
import GoSem.Claim
import GoSem.ClaimJoined
import GoSem.ClaimMapViews
import Derived.JoinedTies
import Derived.KernelRfl
namespace Go.Proofs.YtenfgdobfjofkaaGreat
/- THE CELL 'sum', in the pinned program and in every row, IS THE sha256 OF THE DUMP (.gsa) THAT YtenfgdobfjofkaaGreatProg.lean LOADS. Nothing in Lean hashes anything: it is a label: what it is worth is what the hold of that sum in a sandbox is worth. -/
noncomputable def Tryz.pinned : Pinned := { name := "ytenfgdobfjofkaagreat", sum := "15fab234b5c9558bc91e16064b508d84d295a0e1cbcb4234004b11e1bfdaa920", checked := Tryz.checked }
namespace Rows
def none {H : Type} : Left H := { results := [], args := [] }

/-- 'pinballlaw14.ContactStates': WHATEVER THE INPUT: true; the input reads as it did. -/
def contactStatesSpec : ChangeSpec := { name := "contactStates", fn := fun _ => fun
  | [d1, d2, d3] => { results := [.lit (.bool true)], args := [d1, d2, d3] }
  | _ => none }
def contactStatesRow : OpenClaim := { program := "ytenfgdobfjofkaagreat", sum := "15fab234b5c9558bc91e16064b508d84d295a0e1cbcb4234004b11e1bfdaa920", func := "pinball/pinballlaw14.ContactStates", spec := "contactStates", unfollowed := true, recurses := true, named := ["math/bits.divideError", "math/bits.overflowError"], apart := false }
def ContactStatesSaid : Prop := contactStatesRow.holds Tryz.pinned (OpenSpec.ofChange contactStatesSpec)

/-- ITS FALSE NEIGHBOUR: 'it returns false'. Refute it at one input. -/
def contactStatesWrong : ChangeSpec := { name := "contactStates", fn := fun _ => fun
  | [d1, d2, d3] => { results := [.lit (.bool false)], args := [d1, d2, d3] }
  | _ => none }
def ContactStatesWrongFalsely : Prop := contactStatesRow.holds Tryz.pinned (OpenSpec.ofChange contactStatesWrong)

/-- 'pinballlaw14.ContactPlaces': WHATEVER THE INPUT: true; the input reads as it did. -/
def contactPlacesSpec : ChangeSpec := { name := "contactPlaces", fn := fun _ => fun
  | [d1, d2, d3] => { results := [.lit (.bool true)], args := [d1, d2, d3] }
  | _ => none }
def contactPlacesRow : OpenClaim := { program := "ytenfgdobfjofkaagreat", sum := "15fab234b5c9558bc91e16064b508d84d295a0e1cbcb4234004b11e1bfdaa920", func := "pinball/pinballlaw14.ContactPlaces", spec := "contactPlaces", unfollowed := true, recurses := true, named := ["math/bits.divideError", "math/bits.overflowError"], apart := false }
def ContactPlacesSaid : Prop := contactPlacesRow.holds Tryz.pinned (OpenSpec.ofChange contactPlacesSpec)

/-- ITS FALSE NEIGHBOUR: 'it returns false'. Refute it at one input. -/
def contactPlacesWrong : ChangeSpec := { name := "contactPlaces", fn := fun _ => fun
  | [d1, d2, d3] => { results := [.lit (.bool false)], args := [d1, d2, d3] }
  | _ => none }
def ContactPlacesWrongFalsely : Prop := contactPlacesRow.holds Tryz.pinned (OpenSpec.ofChange contactPlacesWrong)

/-- 'pinballlaw14.ContactNormals': WHATEVER THE INPUT: true; the input reads as it did. -/
def contactNormalsSpec : ChangeSpec := { name := "contactNormals", fn := fun _ => fun
  | [d1, d2] => { results := [.lit (.bool true)], args := [d1, d2] }
  | _ => none }
def contactNormalsRow : OpenClaim := { program := "ytenfgdobfjofkaagreat", sum := "15fab234b5c9558bc91e16064b508d84d295a0e1cbcb4234004b11e1bfdaa920", func := "pinball/pinballlaw14.ContactNormals", spec := "contactNormals", unfollowed := true, recurses := true, named := ["math/bits.divideError", "math/bits.overflowError"], apart := false }
def ContactNormalsSaid : Prop := contactNormalsRow.holds Tryz.pinned (OpenSpec.ofChange contactNormalsSpec)

/-- ITS FALSE NEIGHBOUR: 'it returns false'. Refute it at one input. -/
def contactNormalsWrong : ChangeSpec := { name := "contactNormals", fn := fun _ => fun
  | [d1, d2] => { results := [.lit (.bool false)], args := [d1, d2] }
  | _ => none }
def ContactNormalsWrongFalsely : Prop := contactNormalsRow.holds Tryz.pinned (OpenSpec.ofChange contactNormalsWrong)

/-- 'pinballlaw14.ContactClear': WHATEVER THE INPUT: true; the input reads as it did. -/
def contactClearSpec : ChangeSpec := { name := "contactClear", fn := fun _ => fun
  | [d1, d2] => { results := [.lit (.bool true)], args := [d1, d2] }
  | _ => none }
def contactClearRow : OpenClaim := { program := "ytenfgdobfjofkaagreat", sum := "15fab234b5c9558bc91e16064b508d84d295a0e1cbcb4234004b11e1bfdaa920", func := "pinball/pinballlaw14.ContactClear", spec := "contactClear", unfollowed := true, recurses := true, named := ["math/bits.divideError", "math/bits.overflowError"], apart := false }
def ContactClearSaid : Prop := contactClearRow.holds Tryz.pinned (OpenSpec.ofChange contactClearSpec)

/-- ITS FALSE NEIGHBOUR: 'it returns false'. Refute it at one input. -/
def contactClearWrong : ChangeSpec := { name := "contactClear", fn := fun _ => fun
  | [d1, d2] => { results := [.lit (.bool false)], args := [d1, d2] }
  | _ => none }
def ContactClearWrongFalsely : Prop := contactClearRow.holds Tryz.pinned (OpenSpec.ofChange contactClearWrong)

/-- 'pinballlaw14.ContactAll': WHATEVER THE INPUT: true; the input reads as it did. -/
def contactAllSpec : ChangeSpec := { name := "contactAll", fn := fun _ => fun
  | [d1, d2] => { results := [.lit (.bool true)], args := [d1, d2] }
  | _ => none }
def contactAllRow : OpenClaim := { program := "ytenfgdobfjofkaagreat", sum := "15fab234b5c9558bc91e16064b508d84d295a0e1cbcb4234004b11e1bfdaa920", func := "pinball/pinballlaw14.ContactAll", spec := "contactAll", unfollowed := true, recurses := true, named := ["math/bits.divideError", "math/bits.overflowError"], apart := false }
def ContactAllSaid : Prop := contactAllRow.holds Tryz.pinned (OpenSpec.ofChange contactAllSpec)

/-- ITS FALSE NEIGHBOUR: 'it returns false'. Refute it at one input. -/
def contactAllWrong : ChangeSpec := { name := "contactAll", fn := fun _ => fun
  | [d1, d2] => { results := [.lit (.bool false)], args := [d1, d2] }
  | _ => none }
def ContactAllWrongFalsely : Prop := contactAllRow.holds Tryz.pinned (OpenSpec.ofChange contactAllWrong)

/- THE SECOND FORM. 'bulk': how many values and letters a reading holds, each counted each time it is reached (what is shared counts as often as it is met; a slice's spare places count too). A statement '..UptoSaid' is the law's where the arguments, and the package variables that the reading takes, are together of bulk at most 1048576: NARROWER than '..Said'. Prove '..Said' where nothing that the law and all that it calls make is longer than what came in: it says more and counts as full. Else prove '..UptoSaid'. A law counts once. -/
mutual
def uptoBulk {H : Type} : DataW H → Nat
  | .lit (.string bytes) => bytes.length + 1
  | .lit _ => 1
  | .nil => 1
  | .ptr d => uptoBulk d + 1
  | .slice elems spare => uptoBulkAll elems + uptoBulkAll spare + 1
  | .agg parts => uptoBulkAll parts + 1
  | .iface _ d => uptoBulk d + 1
  | .map entries => uptoBulkEntries entries + 1
  | .held _ => 1
def uptoBulkAll {H : Type} : List (DataW H) → Nat
  | [] => 0
  | d :: r => uptoBulk d + uptoBulkAll r
def uptoBulkEntries {H : Type} : List (Lit × DataW H) → Nat
  | [] => 0
  | x :: r => uptoBulkEntry x + uptoBulkEntries r
def uptoBulkEntry {H : Type} : Lit × DataW H → Nat
  | (.string bytes, d) => bytes.length + uptoBulk d + 1
  | (_, d) => uptoBulk d + 1
 end
def uptoSmall : (H : Type) → List (DataW H) → Bool := fun _ ds => decide (uptoBulkAll ds ≤ 1048576)
def OpenSpec.upto (s : _root_.Go.ChangeSpec) : _root_.Go.OpenSpec := { _root_.Go.OpenSpec.ofChange s with cond := some uptoSmall }

/-- 'pinballlaw14.ContactStates', WHERE WHAT IT READS IS OF BULK AT MOST 1048576: true; the input reads as it did. -/
def contactStatesUptoRow : OpenClaim := { program := "ytenfgdobfjofkaagreat", sum := "15fab234b5c9558bc91e16064b508d84d295a0e1cbcb4234004b11e1bfdaa920", func := "pinball/pinballlaw14.ContactStates", spec := "contactStates", unfollowed := true, recurses := true, named := ["math/bits.divideError", "math/bits.overflowError"], apart := false, narrowed := true }
def ContactStatesUptoSaid : Prop := contactStatesUptoRow.holds Tryz.pinned (OpenSpec.upto contactStatesSpec)

/-- 'pinballlaw14.ContactPlaces', WHERE WHAT IT READS IS OF BULK AT MOST 1048576: true; the input reads as it did. -/
def contactPlacesUptoRow : OpenClaim := { program := "ytenfgdobfjofkaagreat", sum := "15fab234b5c9558bc91e16064b508d84d295a0e1cbcb4234004b11e1bfdaa920", func := "pinball/pinballlaw14.ContactPlaces", spec := "contactPlaces", unfollowed := true, recurses := true, named := ["math/bits.divideError", "math/bits.overflowError"], apart := false, narrowed := true }
def ContactPlacesUptoSaid : Prop := contactPlacesUptoRow.holds Tryz.pinned (OpenSpec.upto contactPlacesSpec)

/-- 'pinballlaw14.ContactNormals', WHERE WHAT IT READS IS OF BULK AT MOST 1048576: true; the input reads as it did. -/
def contactNormalsUptoRow : OpenClaim := { program := "ytenfgdobfjofkaagreat", sum := "15fab234b5c9558bc91e16064b508d84d295a0e1cbcb4234004b11e1bfdaa920", func := "pinball/pinballlaw14.ContactNormals", spec := "contactNormals", unfollowed := true, recurses := true, named := ["math/bits.divideError", "math/bits.overflowError"], apart := false, narrowed := true }
def ContactNormalsUptoSaid : Prop := contactNormalsUptoRow.holds Tryz.pinned (OpenSpec.upto contactNormalsSpec)

/-- 'pinballlaw14.ContactClear', WHERE WHAT IT READS IS OF BULK AT MOST 1048576: true; the input reads as it did. -/
def contactClearUptoRow : OpenClaim := { program := "ytenfgdobfjofkaagreat", sum := "15fab234b5c9558bc91e16064b508d84d295a0e1cbcb4234004b11e1bfdaa920", func := "pinball/pinballlaw14.ContactClear", spec := "contactClear", unfollowed := true, recurses := true, named := ["math/bits.divideError", "math/bits.overflowError"], apart := false, narrowed := true }
def ContactClearUptoSaid : Prop := contactClearUptoRow.holds Tryz.pinned (OpenSpec.upto contactClearSpec)

/-- 'pinballlaw14.ContactAll', WHERE WHAT IT READS IS OF BULK AT MOST 1048576: true; the input reads as it did. -/
def contactAllUptoRow : OpenClaim := { program := "ytenfgdobfjofkaagreat", sum := "15fab234b5c9558bc91e16064b508d84d295a0e1cbcb4234004b11e1bfdaa920", func := "pinball/pinballlaw14.ContactAll", spec := "contactAll", unfollowed := true, recurses := true, named := ["math/bits.divideError", "math/bits.overflowError"], apart := false, narrowed := true }
def ContactAllUptoSaid : Prop := contactAllUptoRow.holds Tryz.pinned (OpenSpec.upto contactAllSpec)

end Rows
end Go.Proofs.YtenfgdobfjofkaaGreat
