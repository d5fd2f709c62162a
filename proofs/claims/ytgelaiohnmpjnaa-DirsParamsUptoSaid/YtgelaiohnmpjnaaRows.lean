/-
  NARROWER THAN 'FOR EVERY INPUT', by the rows' own cells (each row's printed sentence says how): DefsSubs: loops · CollectSays: loops · CollectKeys: loops · CollectFront: loops · CollectWraps: loops · CollectOnce: loops · CollectBelow: loops.
  DERIVED. THE GIVEN ROWS OF THIS SEAT. 10 by the template 'for every input the law returns true; each argument reads behind the call as it read before'; 0 by the template 'total and deterministic' (their statements: YtgelaiohnmpjnaaTotals.lean).
  GIVEN WITH THE SEED: the statements are not yours to turn. If you find one false, say at which input.
  Laid BY PROGRAM, IN A SANDBOX (cutbox-rows.mjs): the forced cells as the released guide's own fill.sh prints them over the translation 55e3b001583db692… (all of the seat's roots in one cut). By AI agents, Wed Nov 11 2026. No macro, syntax, notation, axiom, sorry.
-/
import Derived.Test.YtgelaiohnmpjnaaChecked
import GoSem.Claim
import GoSem.ClaimJoined
import GoSem.ClaimMapViews
import Derived.JoinedTies
import Derived.KernelRfl
namespace Go.Proofs.Ytgelaiohnmpjnaa
/- THE CELL 'sum', in the pinned program and in every row, IS THE sha256 OF THE DUMP (.gsa) THAT YtgelaiohnmpjnaaProg.lean LOADS. Nothing in Lean hashes anything: it is a label: what it is worth is what the hold of that sum in a sandbox is worth. -/
noncomputable def Try.pinned : Pinned := { name := "ytgelaiohnmpjnaa", sum := "55e3b001583db692db8162d9c303e463b33d86d3c4554b5a047343a72d0f4663", checked := Try.checked }
namespace Rows
def none {H : Type} : Left H := { results := [], args := [] }

/-- 'seinelaw2.BlockClean': WHATEVER THE INPUT: true; the input reads as it did. -/
def blockCleanSpec : ChangeSpec := { name := "blockClean", fn := fun _ => fun
  | [d] => { results := [.lit (.bool true)], args := [d] }
  | _ => none }
def blockCleanRow : OpenClaim := { program := "ytgelaiohnmpjnaa", sum := "55e3b001583db692db8162d9c303e463b33d86d3c4554b5a047343a72d0f4663", func := "seine/seinelaw2.BlockClean", spec := "blockClean", inPlace := ["internal/abi.NoEscape", "internal/bytealg.MakeNoZero"], apart := false }
def BlockCleanSaid : Prop := blockCleanRow.holds Try.pinned (OpenSpec.ofChange blockCleanSpec)

/-- ITS FALSE NEIGHBOUR: 'it returns false'. Refute it at one input. -/
def blockCleanWrong : ChangeSpec := { name := "blockClean", fn := fun _ => fun
  | [d] => { results := [.lit (.bool false)], args := [d] }
  | _ => none }
def BlockCleanWrongFalsely : Prop := blockCleanRow.holds Try.pinned (OpenSpec.ofChange blockCleanWrong)

/-- 'seinelaw2.BlockShifts': WHATEVER THE INPUT: true; the input reads as it did. -/
def blockShiftsSpec : ChangeSpec := { name := "blockShifts", fn := fun _ => fun
  | [d1, d2] => { results := [.lit (.bool true)], args := [d1, d2] }
  | _ => none }
def blockShiftsRow : OpenClaim := { program := "ytgelaiohnmpjnaa", sum := "55e3b001583db692db8162d9c303e463b33d86d3c4554b5a047343a72d0f4663", func := "seine/seinelaw2.BlockShifts", spec := "blockShifts", inPlace := ["internal/abi.NoEscape", "internal/bytealg.MakeNoZero"], apart := false }
def BlockShiftsSaid : Prop := blockShiftsRow.holds Try.pinned (OpenSpec.ofChange blockShiftsSpec)

/-- ITS FALSE NEIGHBOUR: 'it returns false'. Refute it at one input. -/
def blockShiftsWrong : ChangeSpec := { name := "blockShifts", fn := fun _ => fun
  | [d1, d2] => { results := [.lit (.bool false)], args := [d1, d2] }
  | _ => none }
def BlockShiftsWrongFalsely : Prop := blockShiftsRow.holds Try.pinned (OpenSpec.ofChange blockShiftsWrong)

/-- 'seinelaw9.DefsSubs': WHATEVER THE INPUT: true; the input reads as it did. -/
def defsSubsSpec : ChangeSpec := { name := "defsSubs", fn := fun _ => fun
  | [d1, d2, d3] => { results := [.lit (.bool true)], args := [d1, d2, d3] }
  | _ => none }
def defsSubsRow : OpenClaim := { program := "ytgelaiohnmpjnaa", sum := "55e3b001583db692db8162d9c303e463b33d86d3c4554b5a047343a72d0f4663", func := "seine/seinelaw9.DefsSubs", spec := "defsSubs", unfollowed := true, recurses := true, loops := true, apart := false }
def DefsSubsSaid : Prop := defsSubsRow.holds Try.pinned (OpenSpec.ofChange defsSubsSpec)

/-- ITS FALSE NEIGHBOUR: 'it returns false'. Refute it at one input. -/
def defsSubsWrong : ChangeSpec := { name := "defsSubs", fn := fun _ => fun
  | [d1, d2, d3] => { results := [.lit (.bool false)], args := [d1, d2, d3] }
  | _ => none }
def DefsSubsWrongFalsely : Prop := defsSubsRow.holds Try.pinned (OpenSpec.ofChange defsSubsWrong)

/-- 'seinelaw25.CollectSays': WHATEVER THE INPUT: true; the input reads as it did. -/
def collectSaysSpec : ChangeSpec := { name := "collectSays", fn := fun _ => fun
  | [d1, d2, d3, d4, d5] => { results := [.lit (.bool true)], args := [d1, d2, d3, d4, d5] }
  | _ => none }
def collectSaysRow : OpenClaim := { program := "ytgelaiohnmpjnaa", sum := "55e3b001583db692db8162d9c303e463b33d86d3c4554b5a047343a72d0f4663", func := "seine/seinelaw25.CollectSays", spec := "collectSays", unfollowed := true, recurses := true, loops := true, apart := false }
def CollectSaysSaid : Prop := collectSaysRow.holds Try.pinned (OpenSpec.ofChange collectSaysSpec)

/-- ITS FALSE NEIGHBOUR: 'it returns false'. Refute it at one input. -/
def collectSaysWrong : ChangeSpec := { name := "collectSays", fn := fun _ => fun
  | [d1, d2, d3, d4, d5] => { results := [.lit (.bool false)], args := [d1, d2, d3, d4, d5] }
  | _ => none }
def CollectSaysWrongFalsely : Prop := collectSaysRow.holds Try.pinned (OpenSpec.ofChange collectSaysWrong)

/-- 'seinelaw25.CollectKeys': WHATEVER THE INPUT: true; the input reads as it did. -/
def collectKeysSpec : ChangeSpec := { name := "collectKeys", fn := fun _ => fun
  | [d1, d2, d3, d4, d5] => { results := [.lit (.bool true)], args := [d1, d2, d3, d4, d5] }
  | _ => none }
def collectKeysRow : OpenClaim := { program := "ytgelaiohnmpjnaa", sum := "55e3b001583db692db8162d9c303e463b33d86d3c4554b5a047343a72d0f4663", func := "seine/seinelaw25.CollectKeys", spec := "collectKeys", unfollowed := true, recurses := true, loops := true, apart := false }
def CollectKeysSaid : Prop := collectKeysRow.holds Try.pinned (OpenSpec.ofChange collectKeysSpec)

/-- ITS FALSE NEIGHBOUR: 'it returns false'. Refute it at one input. -/
def collectKeysWrong : ChangeSpec := { name := "collectKeys", fn := fun _ => fun
  | [d1, d2, d3, d4, d5] => { results := [.lit (.bool false)], args := [d1, d2, d3, d4, d5] }
  | _ => none }
def CollectKeysWrongFalsely : Prop := collectKeysRow.holds Try.pinned (OpenSpec.ofChange collectKeysWrong)

/-- 'seinelaw25.CollectFront': WHATEVER THE INPUT: true; the input reads as it did. -/
def collectFrontSpec : ChangeSpec := { name := "collectFront", fn := fun _ => fun
  | [d1, d2, d3, d4, d5, d6] => { results := [.lit (.bool true)], args := [d1, d2, d3, d4, d5, d6] }
  | _ => none }
def collectFrontRow : OpenClaim := { program := "ytgelaiohnmpjnaa", sum := "55e3b001583db692db8162d9c303e463b33d86d3c4554b5a047343a72d0f4663", func := "seine/seinelaw25.CollectFront", spec := "collectFront", unfollowed := true, recurses := true, loops := true, apart := false }
def CollectFrontSaid : Prop := collectFrontRow.holds Try.pinned (OpenSpec.ofChange collectFrontSpec)

/-- ITS FALSE NEIGHBOUR: 'it returns false'. Refute it at one input. -/
def collectFrontWrong : ChangeSpec := { name := "collectFront", fn := fun _ => fun
  | [d1, d2, d3, d4, d5, d6] => { results := [.lit (.bool false)], args := [d1, d2, d3, d4, d5, d6] }
  | _ => none }
def CollectFrontWrongFalsely : Prop := collectFrontRow.holds Try.pinned (OpenSpec.ofChange collectFrontWrong)

/-- 'seinelaw25.CollectWraps': WHATEVER THE INPUT: true; the input reads as it did. -/
def collectWrapsSpec : ChangeSpec := { name := "collectWraps", fn := fun _ => fun
  | [d1, d2, d3, d4, d5, d6] => { results := [.lit (.bool true)], args := [d1, d2, d3, d4, d5, d6] }
  | _ => none }
def collectWrapsRow : OpenClaim := { program := "ytgelaiohnmpjnaa", sum := "55e3b001583db692db8162d9c303e463b33d86d3c4554b5a047343a72d0f4663", func := "seine/seinelaw25.CollectWraps", spec := "collectWraps", unfollowed := true, recurses := true, loops := true, apart := false }
def CollectWrapsSaid : Prop := collectWrapsRow.holds Try.pinned (OpenSpec.ofChange collectWrapsSpec)

/-- ITS FALSE NEIGHBOUR: 'it returns false'. Refute it at one input. -/
def collectWrapsWrong : ChangeSpec := { name := "collectWraps", fn := fun _ => fun
  | [d1, d2, d3, d4, d5, d6] => { results := [.lit (.bool false)], args := [d1, d2, d3, d4, d5, d6] }
  | _ => none }
def CollectWrapsWrongFalsely : Prop := collectWrapsRow.holds Try.pinned (OpenSpec.ofChange collectWrapsWrong)

/-- 'seinelaw25.CollectOnce': WHATEVER THE INPUT: true; the input reads as it did. -/
def collectOnceSpec : ChangeSpec := { name := "collectOnce", fn := fun _ => fun
  | [d1, d2, d3, d4, d5] => { results := [.lit (.bool true)], args := [d1, d2, d3, d4, d5] }
  | _ => none }
def collectOnceRow : OpenClaim := { program := "ytgelaiohnmpjnaa", sum := "55e3b001583db692db8162d9c303e463b33d86d3c4554b5a047343a72d0f4663", func := "seine/seinelaw25.CollectOnce", spec := "collectOnce", unfollowed := true, recurses := true, loops := true, apart := false }
def CollectOnceSaid : Prop := collectOnceRow.holds Try.pinned (OpenSpec.ofChange collectOnceSpec)

/-- ITS FALSE NEIGHBOUR: 'it returns false'. Refute it at one input. -/
def collectOnceWrong : ChangeSpec := { name := "collectOnce", fn := fun _ => fun
  | [d1, d2, d3, d4, d5] => { results := [.lit (.bool false)], args := [d1, d2, d3, d4, d5] }
  | _ => none }
def CollectOnceWrongFalsely : Prop := collectOnceRow.holds Try.pinned (OpenSpec.ofChange collectOnceWrong)

/-- 'seinelaw15.DirsParams': WHATEVER THE INPUT: true; the input reads as it did. -/
def dirsParamsSpec : ChangeSpec := { name := "dirsParams", fn := fun _ => fun
  | [d] => { results := [.lit (.bool true)], args := [d] }
  | _ => none }
def dirsParamsRow : OpenClaim := { program := "ytgelaiohnmpjnaa", sum := "55e3b001583db692db8162d9c303e463b33d86d3c4554b5a047343a72d0f4663", func := "seine/seinelaw15.DirsParams", spec := "dirsParams", unfollowed := true, recurses := true, apart := false }
def DirsParamsSaid : Prop := dirsParamsRow.holds Try.pinned (OpenSpec.ofChange dirsParamsSpec)

/-- ITS FALSE NEIGHBOUR: 'it returns false'. Refute it at one input. -/
def dirsParamsWrong : ChangeSpec := { name := "dirsParams", fn := fun _ => fun
  | [d] => { results := [.lit (.bool false)], args := [d] }
  | _ => none }
def DirsParamsWrongFalsely : Prop := dirsParamsRow.holds Try.pinned (OpenSpec.ofChange dirsParamsWrong)

/-- 'seinelaw25.CollectBelow': WHATEVER THE INPUT: true; the input reads as it did. -/
def collectBelowSpec : ChangeSpec := { name := "collectBelow", fn := fun _ => fun
  | [d1, d2, d3, d4] => { results := [.lit (.bool true)], args := [d1, d2, d3, d4] }
  | _ => none }
def collectBelowRow : OpenClaim := { program := "ytgelaiohnmpjnaa", sum := "55e3b001583db692db8162d9c303e463b33d86d3c4554b5a047343a72d0f4663", func := "seine/seinelaw25.CollectBelow", spec := "collectBelow", unfollowed := true, recurses := true, loops := true, apart := false }
def CollectBelowSaid : Prop := collectBelowRow.holds Try.pinned (OpenSpec.ofChange collectBelowSpec)

/-- ITS FALSE NEIGHBOUR: 'it returns false'. Refute it at one input. -/
def collectBelowWrong : ChangeSpec := { name := "collectBelow", fn := fun _ => fun
  | [d1, d2, d3, d4] => { results := [.lit (.bool false)], args := [d1, d2, d3, d4] }
  | _ => none }
def CollectBelowWrongFalsely : Prop := collectBelowRow.holds Try.pinned (OpenSpec.ofChange collectBelowWrong)

/- THE SECOND FORM. 'bulk': how many values and letters a reading holds, each counted each time it is reached (what is shared counts as often as it is met; a slice's spare places count too). A statement '..UptoSaid' is the law's where the arguments, and the package variables that the reading takes, are together of bulk at most 1048576: NARROWER than '..Said'. Prove '..Said' where nothing that the law and all that it calls make is longer than what came in: it says more and counts as full. Else prove '..UptoSaid'. A law counts once. -/
mutual
def uptoBulk {H : Type} : DataW H → Nat
  | .lit (.string bytes) => bytes.length + 1
  | .lit _ => 1
  | .nil => 1
  | .ptr d => uptoBulk d + 1
  | .slice elems spare => uptoBulkAll elems + uptoBulkAll spare + 1
  | .agg parts => uptoBulkAll parts + 1
  | .iface _ d => uptoBulk d + 1
  | .map entries => uptoBulkEntries entries + 1
  | .held _ => 1
def uptoBulkAll {H : Type} : List (DataW H) → Nat
  | [] => 0
  | d :: r => uptoBulk d + uptoBulkAll r
def uptoBulkEntries {H : Type} : List (Lit × DataW H) → Nat
  | [] => 0
  | x :: r => uptoBulkEntry x + uptoBulkEntries r
def uptoBulkEntry {H : Type} : Lit × DataW H → Nat
  | (.string bytes, d) => bytes.length + uptoBulk d + 1
  | (_, d) => uptoBulk d + 1
 end
def uptoSmall : (H : Type) → List (DataW H) → Bool := fun _ ds => decide (uptoBulkAll ds ≤ 1048576)
def OpenSpec.upto (s : _root_.Go.ChangeSpec) : _root_.Go.OpenSpec := { _root_.Go.OpenSpec.ofChange s with cond := some uptoSmall }

/-- 'seinelaw2.BlockClean', WHERE WHAT IT READS IS OF BULK AT MOST 1048576: true; the input reads as it did. -/
def blockCleanUptoRow : OpenClaim := { program := "ytgelaiohnmpjnaa", sum := "55e3b001583db692db8162d9c303e463b33d86d3c4554b5a047343a72d0f4663", func := "seine/seinelaw2.BlockClean", spec := "blockClean", inPlace := ["internal/abi.NoEscape", "internal/bytealg.MakeNoZero"], apart := false, narrowed := true }
def BlockCleanUptoSaid : Prop := blockCleanUptoRow.holds Try.pinned (OpenSpec.upto blockCleanSpec)

/-- 'seinelaw2.BlockShifts', WHERE WHAT IT READS IS OF BULK AT MOST 1048576: true; the input reads as it did. -/
def blockShiftsUptoRow : OpenClaim := { program := "ytgelaiohnmpjnaa", sum := "55e3b001583db692db8162d9c303e463b33d86d3c4554b5a047343a72d0f4663", func := "seine/seinelaw2.BlockShifts", spec := "blockShifts", inPlace := ["internal/abi.NoEscape", "internal/bytealg.MakeNoZero"], apart := false, narrowed := true }
def BlockShiftsUptoSaid : Prop := blockShiftsUptoRow.holds Try.pinned (OpenSpec.upto blockShiftsSpec)

/-- 'seinelaw9.DefsSubs', WHERE WHAT IT READS IS OF BULK AT MOST 1048576: true; the input reads as it did. -/
def defsSubsUptoRow : OpenClaim := { program := "ytgelaiohnmpjnaa", sum := "55e3b001583db692db8162d9c303e463b33d86d3c4554b5a047343a72d0f4663", func := "seine/seinelaw9.DefsSubs", spec := "defsSubs", unfollowed := true, recurses := true, loops := true, apart := false, narrowed := true }
def DefsSubsUptoSaid : Prop := defsSubsUptoRow.holds Try.pinned (OpenSpec.upto defsSubsSpec)

/-- 'seinelaw25.CollectSays', WHERE WHAT IT READS IS OF BULK AT MOST 1048576: true; the input reads as it did. -/
def collectSaysUptoRow : OpenClaim := { program := "ytgelaiohnmpjnaa", sum := "55e3b001583db692db8162d9c303e463b33d86d3c4554b5a047343a72d0f4663", func := "seine/seinelaw25.CollectSays", spec := "collectSays", unfollowed := true, recurses := true, loops := true, apart := false, narrowed := true }
def CollectSaysUptoSaid : Prop := collectSaysUptoRow.holds Try.pinned (OpenSpec.upto collectSaysSpec)

/-- 'seinelaw25.CollectKeys', WHERE WHAT IT READS IS OF BULK AT MOST 1048576: true; the input reads as it did. -/
def collectKeysUptoRow : OpenClaim := { program := "ytgelaiohnmpjnaa", sum := "55e3b001583db692db8162d9c303e463b33d86d3c4554b5a047343a72d0f4663", func := "seine/seinelaw25.CollectKeys", spec := "collectKeys", unfollowed := true, recurses := true, loops := true, apart := false, narrowed := true }
def CollectKeysUptoSaid : Prop := collectKeysUptoRow.holds Try.pinned (OpenSpec.upto collectKeysSpec)

/-- 'seinelaw25.CollectFront', WHERE WHAT IT READS IS OF BULK AT MOST 1048576: true; the input reads as it did. -/
def collectFrontUptoRow : OpenClaim := { program := "ytgelaiohnmpjnaa", sum := "55e3b001583db692db8162d9c303e463b33d86d3c4554b5a047343a72d0f4663", func := "seine/seinelaw25.CollectFront", spec := "collectFront", unfollowed := true, recurses := true, loops := true, apart := false, narrowed := true }
def CollectFrontUptoSaid : Prop := collectFrontUptoRow.holds Try.pinned (OpenSpec.upto collectFrontSpec)

/-- 'seinelaw25.CollectWraps', WHERE WHAT IT READS IS OF BULK AT MOST 1048576: true; the input reads as it did. -/
def collectWrapsUptoRow : OpenClaim := { program := "ytgelaiohnmpjnaa", sum := "55e3b001583db692db8162d9c303e463b33d86d3c4554b5a047343a72d0f4663", func := "seine/seinelaw25.CollectWraps", spec := "collectWraps", unfollowed := true, recurses := true, loops := true, apart := false, narrowed := true }
def CollectWrapsUptoSaid : Prop := collectWrapsUptoRow.holds Try.pinned (OpenSpec.upto collectWrapsSpec)

/-- 'seinelaw25.CollectOnce', WHERE WHAT IT READS IS OF BULK AT MOST 1048576: true; the input reads as it did. -/
def collectOnceUptoRow : OpenClaim := { program := "ytgelaiohnmpjnaa", sum := "55e3b001583db692db8162d9c303e463b33d86d3c4554b5a047343a72d0f4663", func := "seine/seinelaw25.CollectOnce", spec := "collectOnce", unfollowed := true, recurses := true, loops := true, apart := false, narrowed := true }
def CollectOnceUptoSaid : Prop := collectOnceUptoRow.holds Try.pinned (OpenSpec.upto collectOnceSpec)

/-- 'seinelaw15.DirsParams', WHERE WHAT IT READS IS OF BULK AT MOST 1048576: true; the input reads as it did. -/
def dirsParamsUptoRow : OpenClaim := { program := "ytgelaiohnmpjnaa", sum := "55e3b001583db692db8162d9c303e463b33d86d3c4554b5a047343a72d0f4663", func := "seine/seinelaw15.DirsParams", spec := "dirsParams", unfollowed := true, recurses := true, apart := false, narrowed := true }
def DirsParamsUptoSaid : Prop := dirsParamsUptoRow.holds Try.pinned (OpenSpec.upto dirsParamsSpec)

/-- 'seinelaw25.CollectBelow', WHERE WHAT IT READS IS OF BULK AT MOST 1048576: true; the input reads as it did. -/
def collectBelowUptoRow : OpenClaim := { program := "ytgelaiohnmpjnaa", sum := "55e3b001583db692db8162d9c303e463b33d86d3c4554b5a047343a72d0f4663", func := "seine/seinelaw25.CollectBelow", spec := "collectBelow", unfollowed := true, recurses := true, loops := true, apart := false, narrowed := true }
def CollectBelowUptoSaid : Prop := collectBelowUptoRow.holds Try.pinned (OpenSpec.upto collectBelowSpec)

end Rows
end Go.Proofs.Ytgelaiohnmpjnaa
