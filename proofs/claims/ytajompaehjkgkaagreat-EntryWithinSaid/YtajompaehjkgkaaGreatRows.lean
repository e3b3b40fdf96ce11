/-
  No cell of these rows narrows 'for every input' (looked for: loops, veiled, ifaces, maps, wideKeys, modest, calm, conditions, laid).
  DERIVED. THE GIVEN ROWS OF THIS SEAT. 9 by the template 'for every input the law returns true; each argument reads behind the call as it read before'; 0 by the template 'total and deterministic' (their statements: YtajompaehjkgkaaGreatTotals.lean).
  GIVEN WITH THE SEED: the statements are not yours to turn. If you find one false, say at which input.
  Laid BY PROGRAM, IN A SANDBOX (cutbox-rows.mjs): the forced cells as the released guide's own fill.sh prints them over the translation dc36486ad97d01f2… (all of the seat's roots in one cut). By AI agents, Wed Nov 11 2026. No macro, syntax, notation, axiom, sorry.
-/
import Derived.Test.YtajompaehjkgkaaGreatChecked
import GoSem.Claim
import GoSem.ClaimJoined
import GoSem.ClaimMapViews
import Derived.JoinedTies
import Derived.KernelRfl
namespace Go.Proofs.YtajompaehjkgkaaGreat
/- THE CELL 'sum', in the pinned program and in every row, IS THE sha256 OF THE DUMP (.gsa) THAT YtajompaehjkgkaaGreatProg.lean LOADS. Nothing in Lean hashes anything: it is a label: what it is worth is what the hold of that sum in a sandbox is worth. -/
noncomputable def Tryz.pinned : Pinned := { name := "ytajompaehjkgkaagreat", sum := "dc36486ad97d01f26436b66bb5da233efff6b3df71a2d89e27c751df02c64d58", checked := Tryz.checked }
namespace Rows
def none {H : Type} : Left H := { results := [], args := [] }

/-- 'pinballlaw04.RootIsolates': WHATEVER THE INPUT: true; the input reads as it did. -/
def rootIsolatesSpec : ChangeSpec := { name := "rootIsolates", fn := fun _ => fun
  | [d1, d2, d3] => { results := [.lit (.bool true)], args := [d1, d2, d3] }
  | _ => none }
def rootIsolatesRow : OpenClaim := { program := "ytajompaehjkgkaagreat", sum := "dc36486ad97d01f26436b66bb5da233efff6b3df71a2d89e27c751df02c64d58", func := "pinball/pinballlaw04.RootIsolates", spec := "rootIsolates", recurses := true, apart := false }
def RootIsolatesSaid : Prop := rootIsolatesRow.holds Tryz.pinned (OpenSpec.ofChange rootIsolatesSpec)

/-- ITS FALSE NEIGHBOUR: 'it returns false'. Refute it at one input. -/
def rootIsolatesWrong : ChangeSpec := { name := "rootIsolates", fn := fun _ => fun
  | [d1, d2, d3] => { results := [.lit (.bool false)], args := [d1, d2, d3] }
  | _ => none }
def RootIsolatesWrongFalsely : Prop := rootIsolatesRow.holds Tryz.pinned (OpenSpec.ofChange rootIsolatesWrong)

/-- 'pinballlaw04.RootOrder': WHATEVER THE INPUT: true; the input reads as it did. -/
def rootOrderSpec : ChangeSpec := { name := "rootOrder", fn := fun _ => fun
  | [d1, d2] => { results := [.lit (.bool true)], args := [d1, d2] }
  | _ => none }
def rootOrderRow : OpenClaim := { program := "ytajompaehjkgkaagreat", sum := "dc36486ad97d01f26436b66bb5da233efff6b3df71a2d89e27c751df02c64d58", func := "pinball/pinballlaw04.RootOrder", spec := "rootOrder", recurses := true, apart := false }
def RootOrderSaid : Prop := rootOrderRow.holds Tryz.pinned (OpenSpec.ofChange rootOrderSpec)

/-- ITS FALSE NEIGHBOUR: 'it returns false'. Refute it at one input. -/
def rootOrderWrong : ChangeSpec := { name := "rootOrder", fn := fun _ => fun
  | [d1, d2] => { results := [.lit (.bool false)], args := [d1, d2] }
  | _ => none }
def RootOrderWrongFalsely : Prop := rootOrderRow.holds Tryz.pinned (OpenSpec.ofChange rootOrderWrong)

/-- 'pinballlaw04.RootDyadics': WHATEVER THE INPUT: true; the input reads as it did. -/
def rootDyadicsSpec : ChangeSpec := { name := "rootDyadics", fn := fun _ => fun
  | [d1, d2, d3] => { results := [.lit (.bool true)], args := [d1, d2, d3] }
  | _ => none }
def rootDyadicsRow : OpenClaim := { program := "ytajompaehjkgkaagreat", sum := "dc36486ad97d01f26436b66bb5da233efff6b3df71a2d89e27c751df02c64d58", func := "pinball/pinballlaw04.RootDyadics", spec := "rootDyadics", recurses := true, apart := false }
def RootDyadicsSaid : Prop := rootDyadicsRow.holds Tryz.pinned (OpenSpec.ofChange rootDyadicsSpec)

/-- ITS FALSE NEIGHBOUR: 'it returns false'. Refute it at one input. -/
def rootDyadicsWrong : ChangeSpec := { name := "rootDyadics", fn := fun _ => fun
  | [d1, d2, d3] => { results := [.lit (.bool false)], args := [d1, d2, d3] }
  | _ => none }
def RootDyadicsWrongFalsely : Prop := rootDyadicsRow.holds Tryz.pinned (OpenSpec.ofChange rootDyadicsWrong)

/-- 'pinballlaw04.RootValid': WHATEVER THE INPUT: true; the input reads as it did. -/
def rootValidSpec : ChangeSpec := { name := "rootValid", fn := fun _ => fun
  | [d1, d2] => { results := [.lit (.bool true)], args := [d1, d2] }
  | _ => none }
def rootValidRow : OpenClaim := { program := "ytajompaehjkgkaagreat", sum := "dc36486ad97d01f26436b66bb5da233efff6b3df71a2d89e27c751df02c64d58", func := "pinball/pinballlaw04.RootValid", spec := "rootValid", recurses := true, apart := false }
def RootValidSaid : Prop := rootValidRow.holds Tryz.pinned (OpenSpec.ofChange rootValidSpec)

/-- ITS FALSE NEIGHBOUR: 'it returns false'. Refute it at one input. -/
def rootValidWrong : ChangeSpec := { name := "rootValid", fn := fun _ => fun
  | [d1, d2] => { results := [.lit (.bool false)], args := [d1, d2] }
  | _ => none }
def RootValidWrongFalsely : Prop := rootValidRow.holds Tryz.pinned (OpenSpec.ofChange rootValidWrong)

/-- 'pinballlaw04.RootSigns': WHATEVER THE INPUT: true; the input reads as it did. -/
def rootSignsSpec : ChangeSpec := { name := "rootSigns", fn := fun _ => fun
  | [d1, d2] => { results := [.lit (.bool true)], args := [d1, d2] }
  | _ => none }
def rootSignsRow : OpenClaim := { program := "ytajompaehjkgkaagreat", sum := "dc36486ad97d01f26436b66bb5da233efff6b3df71a2d89e27c751df02c64d58", func := "pinball/pinballlaw04.RootSigns", spec := "rootSigns", recurses := true, apart := false }
def RootSignsSaid : Prop := rootSignsRow.holds Tryz.pinned (OpenSpec.ofChange rootSignsSpec)

/-- ITS FALSE NEIGHBOUR: 'it returns false'. Refute it at one input. -/
def rootSignsWrong : ChangeSpec := { name := "rootSigns", fn := fun _ => fun
  | [d1, d2] => { results := [.lit (.bool false)], args := [d1, d2] }
  | _ => none }
def RootSignsWrongFalsely : Prop := rootSignsRow.holds Tryz.pinned (OpenSpec.ofChange rootSignsWrong)

/-- 'pinballlaw05.EntryFirst': WHATEVER THE INPUT: true; the input reads as it did. -/
def entryFirstSpec : ChangeSpec := { name := "entryFirst", fn := fun _ => fun
  | [d] => { results := [.lit (.bool true)], args := [d] }
  | _ => none }
def entryFirstRow : OpenClaim := { program := "ytajompaehjkgkaagreat", sum := "dc36486ad97d01f26436b66bb5da233efff6b3df71a2d89e27c751df02c64d58", func := "pinball/pinballlaw05.EntryFirst", spec := "entryFirst", recurses := true, apart := false }
def EntryFirstSaid : Prop := entryFirstRow.holds Tryz.pinned (OpenSpec.ofChange entryFirstSpec)

/-- ITS FALSE NEIGHBOUR: 'it returns false'. Refute it at one input. -/
def entryFirstWrong : ChangeSpec := { name := "entryFirst", fn := fun _ => fun
  | [d] => { results := [.lit (.bool false)], args := [d] }
  | _ => none }
def EntryFirstWrongFalsely : Prop := entryFirstRow.holds Tryz.pinned (OpenSpec.ofChange entryFirstWrong)

/-- 'pinballlaw05.EntryWithin': WHATEVER THE INPUT: true; the input reads as it did. -/
def entryWithinSpec : ChangeSpec := { name := "entryWithin", fn := fun _ => fun
  | [d] => { results := [.lit (.bool true)], args := [d] }
  | _ => none }
def entryWithinRow : OpenClaim := { program := "ytajompaehjkgkaagreat", sum := "dc36486ad97d01f26436b66bb5da233efff6b3df71a2d89e27c751df02c64d58", func := "pinball/pinballlaw05.EntryWithin", spec := "entryWithin", recurses := true, apart := false }
def EntryWithinSaid : Prop := entryWithinRow.holds Tryz.pinned (OpenSpec.ofChange entryWithinSpec)

/-- ITS FALSE NEIGHBOUR: 'it returns false'. Refute it at one input. -/
def entryWithinWrong : ChangeSpec := { name := "entryWithin", fn := fun _ => fun
  | [d] => { results := [.lit (.bool false)], args := [d] }
  | _ => none }
def EntryWithinWrongFalsely : Prop := entryWithinRow.holds Tryz.pinned (OpenSpec.ofChange entryWithinWrong)

/-- 'pinballlaw05.EntryOrder': WHATEVER THE INPUT: true; the input reads as it did. -/
def entryOrderSpec : ChangeSpec := { name := "entryOrder", fn := fun _ => fun
  | [d1, d2] => { results := [.lit (.bool true)], args := [d1, d2] }
  | _ => none }
def entryOrderRow : OpenClaim := { program := "ytajompaehjkgkaagreat", sum := "dc36486ad97d01f26436b66bb5da233efff6b3df71a2d89e27c751df02c64d58", func := "pinball/pinballlaw05.EntryOrder", spec := "entryOrder", recurses := true, apart := false }
def EntryOrderSaid : Prop := entryOrderRow.holds Tryz.pinned (OpenSpec.ofChange entryOrderSpec)

/-- ITS FALSE NEIGHBOUR: 'it returns false'. Refute it at one input. -/
def entryOrderWrong : ChangeSpec := { name := "entryOrder", fn := fun _ => fun
  | [d1, d2] => { results := [.lit (.bool false)], args := [d1, d2] }
  | _ => none }
def EntryOrderWrongFalsely : Prop := entryOrderRow.holds Tryz.pinned (OpenSpec.ofChange entryOrderWrong)

/-- 'pinballlaw05.EntryLimits': WHATEVER THE INPUT: true; the input reads as it did. -/
def entryLimitsSpec : ChangeSpec := { name := "entryLimits", fn := fun _ => fun
  | [d] => { results := [.lit (.bool true)], args := [d] }
  | _ => none }
def entryLimitsRow : OpenClaim := { program := "ytajompaehjkgkaagreat", sum := "dc36486ad97d01f26436b66bb5da233efff6b3df71a2d89e27c751df02c64d58", func := "pinball/pinballlaw05.EntryLimits", spec := "entryLimits", recurses := true, apart := false }
def EntryLimitsSaid : Prop := entryLimitsRow.holds Tryz.pinned (OpenSpec.ofChange entryLimitsSpec)

/-- ITS FALSE NEIGHBOUR: 'it returns false'. Refute it at one input. -/
def entryLimitsWrong : ChangeSpec := { name := "entryLimits", fn := fun _ => fun
  | [d] => { results := [.lit (.bool false)], args := [d] }
  | _ => none }
def EntryLimitsWrongFalsely : Prop := entryLimitsRow.holds Tryz.pinned (OpenSpec.ofChange entryLimitsWrong)

/- THE SECOND FORM. 'bulk': how many values and letters a reading holds, each counted each time it is reached (what is shared counts as often as it is met; a slice's spare places count too). A statement '..UptoSaid' is the law's where the arguments, and the package variables that the reading takes, are together of bulk at most 1048576: NARROWER than '..Said'. Prove '..Said' where nothing that the law and all that it calls make is longer than what came in: it says more and counts as full. Else prove '..UptoSaid'. A law counts once. -/
mutual
def uptoBulk {H : Type} : DataW H → Nat
  | .lit (.string bytes) => bytes.length + 1
  | .lit _ => 1
  | .nil => 1
  | .ptr d => uptoBulk d + 1
  | .slice elems spare => uptoBulkAll elems + uptoBulkAll spare + 1
  | .agg parts => uptoBulkAll parts + 1
  | .iface _ d => uptoBulk d + 1
  | .map entries => uptoBulkEntries entries + 1
  | .held _ => 1
def uptoBulkAll {H : Type} : List (DataW H) → Nat
  | [] => 0
  | d :: r => uptoBulk d + uptoBulkAll r
def uptoBulkEntries {H : Type} : List (Lit × DataW H) → Nat
  | [] => 0
  | x :: r => uptoBulkEntry x + uptoBulkEntries r
def uptoBulkEntry {H : Type} : Lit × DataW H → Nat
  | (.string bytes, d) => bytes.length + uptoBulk d + 1
  | (_, d) => uptoBulk d + 1
 end
def uptoSmall : (H : Type) → List (DataW H) → Bool := fun _ ds => decide (uptoBulkAll ds ≤ 1048576)
def OpenSpec.upto (s : _root_.Go.ChangeSpec) : _root_.Go.OpenSpec := { _root_.Go.OpenSpec.ofChange s with cond := some uptoSmall }

/-- 'pinballlaw04.RootIsolates', WHERE WHAT IT READS IS OF BULK AT MOST 1048576: true; the input reads as it did. -/
def rootIsolatesUptoRow : OpenClaim := { program := "ytajompaehjkgkaagreat", sum := "dc36486ad97d01f26436b66bb5da233efff6b3df71a2d89e27c751df02c64d58", func := "pinball/pinballlaw04.RootIsolates", spec := "rootIsolates", recurses := true, apart := false, narrowed := true }
def RootIsolatesUptoSaid : Prop := rootIsolatesUptoRow.holds Tryz.pinned (OpenSpec.upto rootIsolatesSpec)

/-- 'pinballlaw04.RootOrder', WHERE WHAT IT READS IS OF BULK AT MOST 1048576: true; the input reads as it did. -/
def rootOrderUptoRow : OpenClaim := { program := "ytajompaehjkgkaagreat", sum := "dc36486ad97d01f26436b66bb5da233efff6b3df71a2d89e27c751df02c64d58", func := "pinball/pinballlaw04.RootOrder", spec := "rootOrder", recurses := true, apart := false, narrowed := true }
def RootOrderUptoSaid : Prop := rootOrderUptoRow.holds Tryz.pinned (OpenSpec.upto rootOrderSpec)

/-- 'pinballlaw04.RootDyadics', WHERE WHAT IT READS IS OF BULK AT MOST 1048576: true; the input reads as it did. -/
def rootDyadicsUptoRow : OpenClaim := { program := "ytajompaehjkgkaagreat", sum := "dc36486ad97d01f26436b66bb5da233efff6b3df71a2d89e27c751df02c64d58", func := "pinball/pinballlaw04.RootDyadics", spec := "rootDyadics", recurses := true, apart := false, narrowed := true }
def RootDyadicsUptoSaid : Prop := rootDyadicsUptoRow.holds Tryz.pinned (OpenSpec.upto rootDyadicsSpec)

/-- 'pinballlaw04.RootValid', WHERE WHAT IT READS IS OF BULK AT MOST 1048576: true; the input reads as it did. -/
def rootValidUptoRow : OpenClaim := { program := "ytajompaehjkgkaagreat", sum := "dc36486ad97d01f26436b66bb5da233efff6b3df71a2d89e27c751df02c64d58", func := "pinball/pinballlaw04.RootValid", spec := "rootValid", recurses := true, apart := false, narrowed := true }
def RootValidUptoSaid : Prop := rootValidUptoRow.holds Tryz.pinned (OpenSpec.upto rootValidSpec)

/-- 'pinballlaw04.RootSigns', WHERE WHAT IT READS IS OF BULK AT MOST 1048576: true; the input reads as it did. -/
def rootSignsUptoRow : OpenClaim := { program := "ytajompaehjkgkaagreat", sum := "dc36486ad97d01f26436b66bb5da233efff6b3df71a2d89e27c751df02c64d58", func := "pinball/pinballlaw04.RootSigns", spec := "rootSigns", recurses := true, apart := false, narrowed := true }
def RootSignsUptoSaid : Prop := rootSignsUptoRow.holds Tryz.pinned (OpenSpec.upto rootSignsSpec)

/-- 'pinballlaw05.EntryFirst', WHERE WHAT IT READS IS OF BULK AT MOST 1048576: true; the input reads as it did. -/
def entryFirstUptoRow : OpenClaim := { program := "ytajompaehjkgkaagreat", sum := "dc36486ad97d01f26436b66bb5da233efff6b3df71a2d89e27c751df02c64d58", func := "pinball/pinballlaw05.EntryFirst", spec := "entryFirst", recurses := true, apart := false, narrowed := true }
def EntryFirstUptoSaid : Prop := entryFirstUptoRow.holds Tryz.pinned (OpenSpec.upto entryFirstSpec)

/-- 'pinballlaw05.EntryWithin', WHERE WHAT IT READS IS OF BULK AT MOST 1048576: true; the input reads as it did. -/
def entryWithinUptoRow : OpenClaim := { program := "ytajompaehjkgkaagreat", sum := "dc36486ad97d01f26436b66bb5da233efff6b3df71a2d89e27c751df02c64d58", func := "pinball/pinballlaw05.EntryWithin", spec := "entryWithin", recurses := true, apart := false, narrowed := true }
def EntryWithinUptoSaid : Prop := entryWithinUptoRow.holds Tryz.pinned (OpenSpec.upto entryWithinSpec)

/-- 'pinballlaw05.EntryOrder', WHERE WHAT IT READS IS OF BULK AT MOST 1048576: true; the input reads as it did. -/
def entryOrderUptoRow : OpenClaim := { program := "ytajompaehjkgkaagreat", sum := "dc36486ad97d01f26436b66bb5da233efff6b3df71a2d89e27c751df02c64d58", func := "pinball/pinballlaw05.EntryOrder", spec := "entryOrder", recurses := true, apart := false, narrowed := true }
def EntryOrderUptoSaid : Prop := entryOrderUptoRow.holds Tryz.pinned (OpenSpec.upto entryOrderSpec)

/-- 'pinballlaw05.EntryLimits', WHERE WHAT IT READS IS OF BULK AT MOST 1048576: true; the input reads as it did. -/
def entryLimitsUptoRow : OpenClaim := { program := "ytajompaehjkgkaagreat", sum := "dc36486ad97d01f26436b66bb5da233efff6b3df71a2d89e27c751df02c64d58", func := "pinball/pinballlaw05.EntryLimits", spec := "entryLimits", recurses := true, apart := false, narrowed := true }
def EntryLimitsUptoSaid : Prop := entryLimitsUptoRow.holds Tryz.pinned (OpenSpec.upto entryLimitsSpec)

end Rows
end Go.Proofs.YtajompaehjkgkaaGreat
