/-
  No cell of these rows narrows 'for every input' (looked for: loops, veiled, ifaces, maps, wideKeys, modest, calm, conditions, laid).
  DERIVED. THE GIVEN ROWS OF THIS SEAT. 5 by the template 'for every input the law returns true; each argument reads behind the call as it read before'; 0 by the template 'total and deterministic' (their statements: YtlaomadhhdcflaaTotals.lean).
  GIVEN WITH THE SEED: the statements are not yours to turn. If you find one false, say at which input.
  Laid BY PROGRAM, IN A SANDBOX (cutbox-rows.mjs): the forced cells as the released guide's own fill.sh prints them over the translation cff2984942fd7a45… (all of the seat's roots in one cut). By AI agents, Wed Nov 11 2026. No macro, syntax, notation, axiom, sorry.
-/
import Derived.Test.YtlaomadhhdcflaaChecked
import GoSem.Claim
import GoSem.ClaimJoined
import GoSem.ClaimMapViews
import Derived.JoinedTies
import Derived.KernelRfl
namespace Go.Proofs.Ytlaomadhhdcflaa
/- THE CELL 'sum', in the pinned program and in every row, IS THE sha256 OF THE DUMP (.gsa) THAT YtlaomadhhdcflaaProg.lean LOADS. Nothing in Lean hashes anything: it is a label: what it is worth is what the hold of that sum in a sandbox is worth. -/
noncomputable def Try.pinned : Pinned := { name := "ytlaomadhhdcflaa", sum := "cff2984942fd7a45c6cc69fa17a82666de13066b89e3b5fbc15658b88485613f", checked := Try.checked }
namespace Rows
def none {H : Type} : Left H := { results := [], args := [] }

/-- 'seinelaw2.BlockSays': WHATEVER THE INPUT: true; the input reads as it did. -/
def blockSaysSpec : ChangeSpec := { name := "blockSays", fn := fun _ => fun
  | [d] => { results := [.lit (.bool true)], args := [d] }
  | _ => none }
def blockSaysRow : OpenClaim := { program := "ytlaomadhhdcflaa", sum := "cff2984942fd7a45c6cc69fa17a82666de13066b89e3b5fbc15658b88485613f", func := "seine/seinelaw2.BlockSays", spec := "blockSays", inPlace := ["internal/abi.NoEscape", "internal/bytealg.MakeNoZero"], apart := false }
def BlockSaysSaid : Prop := blockSaysRow.holds Try.pinned (OpenSpec.ofChange blockSaysSpec)

/-- ITS FALSE NEIGHBOUR: 'it returns false'. Refute it at one input. -/
def blockSaysWrong : ChangeSpec := { name := "blockSays", fn := fun _ => fun
  | [d] => { results := [.lit (.bool false)], args := [d] }
  | _ => none }
def BlockSaysWrongFalsely : Prop := blockSaysRow.holds Try.pinned (OpenSpec.ofChange blockSaysWrong)

/-- 'seinelaw2.BlockIndents': WHATEVER THE INPUT: true; the input reads as it did. -/
def blockIndentsSpec : ChangeSpec := { name := "blockIndents", fn := fun _ => fun
  | [d] => { results := [.lit (.bool true)], args := [d] }
  | _ => none }
def blockIndentsRow : OpenClaim := { program := "ytlaomadhhdcflaa", sum := "cff2984942fd7a45c6cc69fa17a82666de13066b89e3b5fbc15658b88485613f", func := "seine/seinelaw2.BlockIndents", spec := "blockIndents", inPlace := ["internal/abi.NoEscape", "internal/bytealg.MakeNoZero"], apart := false }
def BlockIndentsSaid : Prop := blockIndentsRow.holds Try.pinned (OpenSpec.ofChange blockIndentsSpec)

/-- ITS FALSE NEIGHBOUR: 'it returns false'. Refute it at one input. -/
def blockIndentsWrong : ChangeSpec := { name := "blockIndents", fn := fun _ => fun
  | [d] => { results := [.lit (.bool false)], args := [d] }
  | _ => none }
def BlockIndentsWrongFalsely : Prop := blockIndentsRow.holds Try.pinned (OpenSpec.ofChange blockIndentsWrong)

/-- 'seinelaw2.BlockLines': WHATEVER THE INPUT: true; the input reads as it did. -/
def blockLinesSpec : ChangeSpec := { name := "blockLines", fn := fun _ => fun
  | [d] => { results := [.lit (.bool true)], args := [d] }
  | _ => none }
def blockLinesRow : OpenClaim := { program := "ytlaomadhhdcflaa", sum := "cff2984942fd7a45c6cc69fa17a82666de13066b89e3b5fbc15658b88485613f", func := "seine/seinelaw2.BlockLines", spec := "blockLines", inPlace := ["internal/abi.NoEscape", "internal/bytealg.MakeNoZero"], apart := false }
def BlockLinesSaid : Prop := blockLinesRow.holds Try.pinned (OpenSpec.ofChange blockLinesSpec)

/-- ITS FALSE NEIGHBOUR: 'it returns false'. Refute it at one input. -/
def blockLinesWrong : ChangeSpec := { name := "blockLines", fn := fun _ => fun
  | [d] => { results := [.lit (.bool false)], args := [d] }
  | _ => none }
def BlockLinesWrongFalsely : Prop := blockLinesRow.holds Try.pinned (OpenSpec.ofChange blockLinesWrong)

/-- 'seinelaw2.BlockClean': WHATEVER THE INPUT: true; the input reads as it did. -/
def blockCleanSpec : ChangeSpec := { name := "blockClean", fn := fun _ => fun
  | [d] => { results := [.lit (.bool true)], args := [d] }
  | _ => none }
def blockCleanRow : OpenClaim := { program := "ytlaomadhhdcflaa", sum := "cff2984942fd7a45c6cc69fa17a82666de13066b89e3b5fbc15658b88485613f", func := "seine/seinelaw2.BlockClean", spec := "blockClean", inPlace := ["internal/abi.NoEscape", "internal/bytealg.MakeNoZero"], apart := false }
def BlockCleanSaid : Prop := blockCleanRow.holds Try.pinned (OpenSpec.ofChange blockCleanSpec)

/-- ITS FALSE NEIGHBOUR: 'it returns false'. Refute it at one input. -/
def blockCleanWrong : ChangeSpec := { name := "blockClean", fn := fun _ => fun
  | [d] => { results := [.lit (.bool false)], args := [d] }
  | _ => none }
def BlockCleanWrongFalsely : Prop := blockCleanRow.holds Try.pinned (OpenSpec.ofChange blockCleanWrong)

/-- 'seinelaw2.BlockShifts': WHATEVER THE INPUT: true; the input reads as it did. -/
def blockShiftsSpec : ChangeSpec := { name := "blockShifts", fn := fun _ => fun
  | [d1, d2] => { results := [.lit (.bool true)], args := [d1, d2] }
  | _ => none }
def blockShiftsRow : OpenClaim := { program := "ytlaomadhhdcflaa", sum := "cff2984942fd7a45c6cc69fa17a82666de13066b89e3b5fbc15658b88485613f", func := "seine/seinelaw2.BlockShifts", spec := "blockShifts", inPlace := ["internal/abi.NoEscape", "internal/bytealg.MakeNoZero"], apart := false }
def BlockShiftsSaid : Prop := blockShiftsRow.holds Try.pinned (OpenSpec.ofChange blockShiftsSpec)

/-- ITS FALSE NEIGHBOUR: 'it returns false'. Refute it at one input. -/
def blockShiftsWrong : ChangeSpec := { name := "blockShifts", fn := fun _ => fun
  | [d1, d2] => { results := [.lit (.bool false)], args := [d1, d2] }
  | _ => none }
def BlockShiftsWrongFalsely : Prop := blockShiftsRow.holds Try.pinned (OpenSpec.ofChange blockShiftsWrong)

/- THE SECOND FORM. 'bulk': how many values and letters a reading holds, each counted each time it is reached (what is shared counts as often as it is met; a slice's spare places count too). A statement '..UptoSaid' is the law's where the arguments, and the package variables that the reading takes, are together of bulk at most 1048576: NARROWER than '..Said'. Prove '..Said' where nothing that the law and all that it calls make is longer than what came in: it says more and counts as full. Else prove '..UptoSaid'. A law counts once. -/
mutual
def uptoBulk {H : Type} : DataW H → Nat
  | .lit (.string bytes) => bytes.length + 1
  | .lit _ => 1
  | .nil => 1
  | .ptr d => uptoBulk d + 1
  | .slice elems spare => uptoBulkAll elems + uptoBulkAll spare + 1
  | .agg parts => uptoBulkAll parts + 1
  | .iface _ d => uptoBulk d + 1
  | .map entries => uptoBulkEntries entries + 1
  | .held _ => 1
def uptoBulkAll {H : Type} : List (DataW H) → Nat
  | [] => 0
  | d :: r => uptoBulk d + uptoBulkAll r
def uptoBulkEntries {H : Type} : List (Lit × DataW H) → Nat
  | [] => 0
  | x :: r => uptoBulkEntry x + uptoBulkEntries r
def uptoBulkEntry {H : Type} : Lit × DataW H → Nat
  | (.string bytes, d) => bytes.length + uptoBulk d + 1
  | (_, d) => uptoBulk d + 1
 end
def uptoSmall : (H : Type) → List (DataW H) → Bool := fun _ ds => decide (uptoBulkAll ds ≤ 1048576)
def OpenSpec.upto (s : _root_.Go.ChangeSpec) : _root_.Go.OpenSpec := { _root_.Go.OpenSpec.ofChange s with cond := some uptoSmall }

/-- 'seinelaw2.BlockSays', WHERE WHAT IT READS IS OF BULK AT MOST 1048576: true; the input reads as it did. -/
def blockSaysUptoRow : OpenClaim := { program := "ytlaomadhhdcflaa", sum := "cff2984942fd7a45c6cc69fa17a82666de13066b89e3b5fbc15658b88485613f", func := "seine/seinelaw2.BlockSays", spec := "blockSays", inPlace := ["internal/abi.NoEscape", "internal/bytealg.MakeNoZero"], apart := false, narrowed := true }
def BlockSaysUptoSaid : Prop := blockSaysUptoRow.holds Try.pinned (OpenSpec.upto blockSaysSpec)

/-- 'seinelaw2.BlockIndents', WHERE WHAT IT READS IS OF BULK AT MOST 1048576: true; the input reads as it did. -/
def blockIndentsUptoRow : OpenClaim := { program := "ytlaomadhhdcflaa", sum := "cff2984942fd7a45c6cc69fa17a82666de13066b89e3b5fbc15658b88485613f", func := "seine/seinelaw2.BlockIndents", spec := "blockIndents", inPlace := ["internal/abi.NoEscape", "internal/bytealg.MakeNoZero"], apart := false, narrowed := true }
def BlockIndentsUptoSaid : Prop := blockIndentsUptoRow.holds Try.pinned (OpenSpec.upto blockIndentsSpec)

/-- 'seinelaw2.BlockLines', WHERE WHAT IT READS IS OF BULK AT MOST 1048576: true; the input reads as it did. -/
def blockLinesUptoRow : OpenClaim := { program := "ytlaomadhhdcflaa", sum := "cff2984942fd7a45c6cc69fa17a82666de13066b89e3b5fbc15658b88485613f", func := "seine/seinelaw2.BlockLines", spec := "blockLines", inPlace := ["internal/abi.NoEscape", "internal/bytealg.MakeNoZero"], apart := false, narrowed := true }
def BlockLinesUptoSaid : Prop := blockLinesUptoRow.holds Try.pinned (OpenSpec.upto blockLinesSpec)

/-- 'seinelaw2.BlockClean', WHERE WHAT IT READS IS OF BULK AT MOST 1048576: true; the input reads as it did. -/
def blockCleanUptoRow : OpenClaim := { program := "ytlaomadhhdcflaa", sum := "cff2984942fd7a45c6cc69fa17a82666de13066b89e3b5fbc15658b88485613f", func := "seine/seinelaw2.BlockClean", spec := "blockClean", inPlace := ["internal/abi.NoEscape", "internal/bytealg.MakeNoZero"], apart := false, narrowed := true }
def BlockCleanUptoSaid : Prop := blockCleanUptoRow.holds Try.pinned (OpenSpec.upto blockCleanSpec)

/-- 'seinelaw2.BlockShifts', WHERE WHAT IT READS IS OF BULK AT MOST 1048576: true; the input reads as it did. -/
def blockShiftsUptoRow : OpenClaim := { program := "ytlaomadhhdcflaa", sum := "cff2984942fd7a45c6cc69fa17a82666de13066b89e3b5fbc15658b88485613f", func := "seine/seinelaw2.BlockShifts", spec := "blockShifts", inPlace := ["internal/abi.NoEscape", "internal/bytealg.MakeNoZero"], apart := false, narrowed := true }
def BlockShiftsUptoSaid : Prop := blockShiftsUptoRow.holds Try.pinned (OpenSpec.upto blockShiftsSpec)

end Rows
end Go.Proofs.Ytlaomadhhdcflaa
