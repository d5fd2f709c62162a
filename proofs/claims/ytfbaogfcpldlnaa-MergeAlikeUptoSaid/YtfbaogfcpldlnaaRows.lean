/-
  NARROWER THAN 'FOR EVERY INPUT', by the rows' own cells (each row's printed sentence says how): CollectSays: loops · CollectKeys: loops · CollectFront: loops · CollectWraps: loops · CollectOnce: loops · CollectBelow: loops · MergeSays: loops · MergeAlike: loops.
  DERIVED. THE GIVEN ROWS OF THIS SEAT. 8 by the template 'for every input the law returns true; each argument reads behind the call as it read before'; 0 by the template 'total and deterministic' (their statements: YtfbaogfcpldlnaaTotals.lean).
  GIVEN WITH THE SEED: the statements are not yours to turn. If you find one false, say at which input.
  Laid BY PROGRAM, IN A SANDBOX (cutbox-rows.mjs): the forced cells as the released guide's own fill.sh prints them over the translation 1dee1cdf3b42da8c… (all of the seat's roots in one cut). By AI agents, Wed Nov 11 2026. No macro, syntax, notation, axiom, sorry.
-/
import Derived.Test.YtfbaogfcpldlnaaChecked
import GoSem.Claim
import GoSem.ClaimJoined
import GoSem.ClaimMapViews
import Derived.JoinedTies
import Derived.KernelRfl
namespace Go.Proofs.Ytfbaogfcpldlnaa
/- THE CELL 'sum', in the pinned program and in every row, IS THE sha256 OF THE DUMP (.gsa) THAT YtfbaogfcpldlnaaProg.lean LOADS. Nothing in Lean hashes anything: it is a label: what it is worth is what the hold of that sum in a sandbox is worth. -/
noncomputable def Try.pinned : Pinned := { name := "ytfbaogfcpldlnaa", sum := "1dee1cdf3b42da8cdd3e3bfa51c4029a490e35b4f0de3c395711114cb47ca762", checked := Try.checked }
namespace Rows
def none {H : Type} : Left H := { results := [], args := [] }

/-- 'seinelaw25.CollectSays': WHATEVER THE INPUT: true; the input reads as it did. -/
def collectSaysSpec : ChangeSpec := { name := "collectSays", fn := fun _ => fun
  | [d1, d2, d3, d4, d5] => { results := [.lit (.bool true)], args := [d1, d2, d3, d4, d5] }
  | _ => none }
def collectSaysRow : OpenClaim := { program := "ytfbaogfcpldlnaa", sum := "1dee1cdf3b42da8cdd3e3bfa51c4029a490e35b4f0de3c395711114cb47ca762", func := "seine/seinelaw25.CollectSays", spec := "collectSays", unfollowed := true, recurses := true, loops := true, plainKeys := false, apart := false }
def CollectSaysSaid : Prop := collectSaysRow.holds Try.pinned (OpenSpec.ofChange collectSaysSpec)

/-- ITS FALSE NEIGHBOUR: 'it returns false'. Refute it at one input. -/
def collectSaysWrong : ChangeSpec := { name := "collectSays", fn := fun _ => fun
  | [d1, d2, d3, d4, d5] => { results := [.lit (.bool false)], args := [d1, d2, d3, d4, d5] }
  | _ => none }
def CollectSaysWrongFalsely : Prop := collectSaysRow.holds Try.pinned (OpenSpec.ofChange collectSaysWrong)

/-- 'seinelaw25.CollectKeys': WHATEVER THE INPUT: true; the input reads as it did. -/
def collectKeysSpec : ChangeSpec := { name := "collectKeys", fn := fun _ => fun
  | [d1, d2, d3, d4, d5] => { results := [.lit (.bool true)], args := [d1, d2, d3, d4, d5] }
  | _ => none }
def collectKeysRow : OpenClaim := { program := "ytfbaogfcpldlnaa", sum := "1dee1cdf3b42da8cdd3e3bfa51c4029a490e35b4f0de3c395711114cb47ca762", func := "seine/seinelaw25.CollectKeys", spec := "collectKeys", unfollowed := true, recurses := true, loops := true, plainKeys := false, apart := false }
def CollectKeysSaid : Prop := collectKeysRow.holds Try.pinned (OpenSpec.ofChange collectKeysSpec)

/-- ITS FALSE NEIGHBOUR: 'it returns false'. Refute it at one input. -/
def collectKeysWrong : ChangeSpec := { name := "collectKeys", fn := fun _ => fun
  | [d1, d2, d3, d4, d5] => { results := [.lit (.bool false)], args := [d1, d2, d3, d4, d5] }
  | _ => none }
def CollectKeysWrongFalsely : Prop := collectKeysRow.holds Try.pinned (OpenSpec.ofChange collectKeysWrong)

/-- 'seinelaw25.CollectFront': WHATEVER THE INPUT: true; the input reads as it did. -/
def collectFrontSpec : ChangeSpec := { name := "collectFront", fn := fun _ => fun
  | [d1, d2, d3, d4, d5, d6] => { results := [.lit (.bool true)], args := [d1, d2, d3, d4, d5, d6] }
  | _ => none }
def collectFrontRow : OpenClaim := { program := "ytfbaogfcpldlnaa", sum := "1dee1cdf3b42da8cdd3e3bfa51c4029a490e35b4f0de3c395711114cb47ca762", func := "seine/seinelaw25.CollectFront", spec := "collectFront", unfollowed := true, recurses := true, loops := true, plainKeys := false, apart := false }
def CollectFrontSaid : Prop := collectFrontRow.holds Try.pinned (OpenSpec.ofChange collectFrontSpec)

/-- ITS FALSE NEIGHBOUR: 'it returns false'. Refute it at one input. -/
def collectFrontWrong : ChangeSpec := { name := "collectFront", fn := fun _ => fun
  | [d1, d2, d3, d4, d5, d6] => { results := [.lit (.bool false)], args := [d1, d2, d3, d4, d5, d6] }
  | _ => none }
def CollectFrontWrongFalsely : Prop := collectFrontRow.holds Try.pinned (OpenSpec.ofChange collectFrontWrong)

/-- 'seinelaw25.CollectWraps': WHATEVER THE INPUT: true; the input reads as it did. -/
def collectWrapsSpec : ChangeSpec := { name := "collectWraps", fn := fun _ => fun
  | [d1, d2, d3, d4, d5, d6] => { results := [.lit (.bool true)], args := [d1, d2, d3, d4, d5, d6] }
  | _ => none }
def collectWrapsRow : OpenClaim := { program := "ytfbaogfcpldlnaa", sum := "1dee1cdf3b42da8cdd3e3bfa51c4029a490e35b4f0de3c395711114cb47ca762", func := "seine/seinelaw25.CollectWraps", spec := "collectWraps", unfollowed := true, recurses := true, loops := true, plainKeys := false, apart := false }
def CollectWrapsSaid : Prop := collectWrapsRow.holds Try.pinned (OpenSpec.ofChange collectWrapsSpec)

/-- ITS FALSE NEIGHBOUR: 'it returns false'. Refute it at one input. -/
def collectWrapsWrong : ChangeSpec := { name := "collectWraps", fn := fun _ => fun
  | [d1, d2, d3, d4, d5, d6] => { results := [.lit (.bool false)], args := [d1, d2, d3, d4, d5, d6] }
  | _ => none }
def CollectWrapsWrongFalsely : Prop := collectWrapsRow.holds Try.pinned (OpenSpec.ofChange collectWrapsWrong)

/-- 'seinelaw25.CollectOnce': WHATEVER THE INPUT: true; the input reads as it did. -/
def collectOnceSpec : ChangeSpec := { name := "collectOnce", fn := fun _ => fun
  | [d1, d2, d3, d4, d5] => { results := [.lit (.bool true)], args := [d1, d2, d3, d4, d5] }
  | _ => none }
def collectOnceRow : OpenClaim := { program := "ytfbaogfcpldlnaa", sum := "1dee1cdf3b42da8cdd3e3bfa51c4029a490e35b4f0de3c395711114cb47ca762", func := "seine/seinelaw25.CollectOnce", spec := "collectOnce", unfollowed := true, recurses := true, loops := true, plainKeys := false, apart := false }
def CollectOnceSaid : Prop := collectOnceRow.holds Try.pinned (OpenSpec.ofChange collectOnceSpec)

/-- ITS FALSE NEIGHBOUR: 'it returns false'. Refute it at one input. -/
def collectOnceWrong : ChangeSpec := { name := "collectOnce", fn := fun _ => fun
  | [d1, d2, d3, d4, d5] => { results := [.lit (.bool false)], args := [d1, d2, d3, d4, d5] }
  | _ => none }
def CollectOnceWrongFalsely : Prop := collectOnceRow.holds Try.pinned (OpenSpec.ofChange collectOnceWrong)

/-- 'seinelaw25.CollectBelow': WHATEVER THE INPUT: true; the input reads as it did. -/
def collectBelowSpec : ChangeSpec := { name := "collectBelow", fn := fun _ => fun
  | [d1, d2, d3, d4] => { results := [.lit (.bool true)], args := [d1, d2, d3, d4] }
  | _ => none }
def collectBelowRow : OpenClaim := { program := "ytfbaogfcpldlnaa", sum := "1dee1cdf3b42da8cdd3e3bfa51c4029a490e35b4f0de3c395711114cb47ca762", func := "seine/seinelaw25.CollectBelow", spec := "collectBelow", unfollowed := true, recurses := true, loops := true, plainKeys := false, apart := false }
def CollectBelowSaid : Prop := collectBelowRow.holds Try.pinned (OpenSpec.ofChange collectBelowSpec)

/-- ITS FALSE NEIGHBOUR: 'it returns false'. Refute it at one input. -/
def collectBelowWrong : ChangeSpec := { name := "collectBelow", fn := fun _ => fun
  | [d1, d2, d3, d4] => { results := [.lit (.bool false)], args := [d1, d2, d3, d4] }
  | _ => none }
def CollectBelowWrongFalsely : Prop := collectBelowRow.holds Try.pinned (OpenSpec.ofChange collectBelowWrong)

/-- 'seinelaw19.MergeSays': WHATEVER THE INPUT: true; the input reads as it did. -/
def mergeSaysSpec : ChangeSpec := { name := "mergeSays", fn := fun _ => fun
  | [d1, d2, d3, d4, d5] => { results := [.lit (.bool true)], args := [d1, d2, d3, d4, d5] }
  | _ => none }
def mergeSaysRow : OpenClaim := { program := "ytfbaogfcpldlnaa", sum := "1dee1cdf3b42da8cdd3e3bfa51c4029a490e35b4f0de3c395711114cb47ca762", func := "seine/seinelaw19.MergeSays", spec := "mergeSays", unfollowed := true, recurses := true, loops := true, plainKeys := false, apart := false }
def MergeSaysSaid : Prop := mergeSaysRow.holds Try.pinned (OpenSpec.ofChange mergeSaysSpec)

/-- ITS FALSE NEIGHBOUR: 'it returns false'. Refute it at one input. -/
def mergeSaysWrong : ChangeSpec := { name := "mergeSays", fn := fun _ => fun
  | [d1, d2, d3, d4, d5] => { results := [.lit (.bool false)], args := [d1, d2, d3, d4, d5] }
  | _ => none }
def MergeSaysWrongFalsely : Prop := mergeSaysRow.holds Try.pinned (OpenSpec.ofChange mergeSaysWrong)

/-- 'seinelaw19.MergeAlike': WHATEVER THE INPUT: true; the input reads as it did. -/
def mergeAlikeSpec : ChangeSpec := { name := "mergeAlike", fn := fun _ => fun
  | [d1, d2, d3] => { results := [.lit (.bool true)], args := [d1, d2, d3] }
  | _ => none }
def mergeAlikeRow : OpenClaim := { program := "ytfbaogfcpldlnaa", sum := "1dee1cdf3b42da8cdd3e3bfa51c4029a490e35b4f0de3c395711114cb47ca762", func := "seine/seinelaw19.MergeAlike", spec := "mergeAlike", unfollowed := true, recurses := true, loops := true, plainKeys := false, apart := false }
def MergeAlikeSaid : Prop := mergeAlikeRow.holds Try.pinned (OpenSpec.ofChange mergeAlikeSpec)

/-- ITS FALSE NEIGHBOUR: 'it returns false'. Refute it at one input. -/
def mergeAlikeWrong : ChangeSpec := { name := "mergeAlike", fn := fun _ => fun
  | [d1, d2, d3] => { results := [.lit (.bool false)], args := [d1, d2, d3] }
  | _ => none }
def MergeAlikeWrongFalsely : Prop := mergeAlikeRow.holds Try.pinned (OpenSpec.ofChange mergeAlikeWrong)

/- THE SECOND FORM. 'bulk': how many values and letters a reading holds, each counted each time it is reached (what is shared counts as often as it is met; a slice's spare places count too). A statement '..UptoSaid' is the law's where the arguments, and the package variables that the reading takes, are together of bulk at most 1048576: NARROWER than '..Said'. Prove '..Said' where nothing that the law and all that it calls make is longer than what came in: it says more and counts as full. Else prove '..UptoSaid'. A law counts once. -/
mutual
def uptoBulk {H : Type} : DataW H → Nat
  | .lit (.string bytes) => bytes.length + 1
  | .lit _ => 1
  | .nil => 1
  | .ptr d => uptoBulk d + 1
  | .slice elems spare => uptoBulkAll elems + uptoBulkAll spare + 1
  | .agg parts => uptoBulkAll parts + 1
  | .iface _ d => uptoBulk d + 1
  | .map entries => uptoBulkEntries entries + 1
  | .held _ => 1
def uptoBulkAll {H : Type} : List (DataW H) → Nat
  | [] => 0
  | d :: r => uptoBulk d + uptoBulkAll r
def uptoBulkEntries {H : Type} : List (Lit × DataW H) → Nat
  | [] => 0
  | x :: r => uptoBulkEntry x + uptoBulkEntries r
def uptoBulkEntry {H : Type} : Lit × DataW H → Nat
  | (.string bytes, d) => bytes.length + uptoBulk d + 1
  | (_, d) => uptoBulk d + 1
 end
def uptoSmall : (H : Type) → List (DataW H) → Bool := fun _ ds => decide (uptoBulkAll ds ≤ 1048576)
def OpenSpec.upto (s : _root_.Go.ChangeSpec) : _root_.Go.OpenSpec := { _root_.Go.OpenSpec.ofChange s with cond := some uptoSmall }

/-- 'seinelaw25.CollectSays', WHERE WHAT IT READS IS OF BULK AT MOST 1048576: true; the input reads as it did. -/
def collectSaysUptoRow : OpenClaim := { program := "ytfbaogfcpldlnaa", sum := "1dee1cdf3b42da8cdd3e3bfa51c4029a490e35b4f0de3c395711114cb47ca762", func := "seine/seinelaw25.CollectSays", spec := "collectSays", unfollowed := true, recurses := true, loops := true, plainKeys := false, apart := false, narrowed := true }
def CollectSaysUptoSaid : Prop := collectSaysUptoRow.holds Try.pinned (OpenSpec.upto collectSaysSpec)

/-- 'seinelaw25.CollectKeys', WHERE WHAT IT READS IS OF BULK AT MOST 1048576: true; the input reads as it did. -/
def collectKeysUptoRow : OpenClaim := { program := "ytfbaogfcpldlnaa", sum := "1dee1cdf3b42da8cdd3e3bfa51c4029a490e35b4f0de3c395711114cb47ca762", func := "seine/seinelaw25.CollectKeys", spec := "collectKeys", unfollowed := true, recurses := true, loops := true, plainKeys := false, apart := false, narrowed := true }
def CollectKeysUptoSaid : Prop := collectKeysUptoRow.holds Try.pinned (OpenSpec.upto collectKeysSpec)

/-- 'seinelaw25.CollectFront', WHERE WHAT IT READS IS OF BULK AT MOST 1048576: true; the input reads as it did. -/
def collectFrontUptoRow : OpenClaim := { program := "ytfbaogfcpldlnaa", sum := "1dee1cdf3b42da8cdd3e3bfa51c4029a490e35b4f0de3c395711114cb47ca762", func := "seine/seinelaw25.CollectFront", spec := "collectFront", unfollowed := true, recurses := true, loops := true, plainKeys := false, apart := false, narrowed := true }
def CollectFrontUptoSaid : Prop := collectFrontUptoRow.holds Try.pinned (OpenSpec.upto collectFrontSpec)

/-- 'seinelaw25.CollectWraps', WHERE WHAT IT READS IS OF BULK AT MOST 1048576: true; the input reads as it did. -/
def collectWrapsUptoRow : OpenClaim := { program := "ytfbaogfcpldlnaa", sum := "1dee1cdf3b42da8cdd3e3bfa51c4029a490e35b4f0de3c395711114cb47ca762", func := "seine/seinelaw25.CollectWraps", spec := "collectWraps", unfollowed := true, recurses := true, loops := true, plainKeys := false, apart := false, narrowed := true }
def CollectWrapsUptoSaid : Prop := collectWrapsUptoRow.holds Try.pinned (OpenSpec.upto collectWrapsSpec)

/-- 'seinelaw25.CollectOnce', WHERE WHAT IT READS IS OF BULK AT MOST 1048576: true; the input reads as it did. -/
def collectOnceUptoRow : OpenClaim := { program := "ytfbaogfcpldlnaa", sum := "1dee1cdf3b42da8cdd3e3bfa51c4029a490e35b4f0de3c395711114cb47ca762", func := "seine/seinelaw25.CollectOnce", spec := "collectOnce", unfollowed := true, recurses := true, loops := true, plainKeys := false, apart := false, narrowed := true }
def CollectOnceUptoSaid : Prop := collectOnceUptoRow.holds Try.pinned (OpenSpec.upto collectOnceSpec)

/-- 'seinelaw25.CollectBelow', WHERE WHAT IT READS IS OF BULK AT MOST 1048576: true; the input reads as it did. -/
def collectBelowUptoRow : OpenClaim := { program := "ytfbaogfcpldlnaa", sum := "1dee1cdf3b42da8cdd3e3bfa51c4029a490e35b4f0de3c395711114cb47ca762", func := "seine/seinelaw25.CollectBelow", spec := "collectBelow", unfollowed := true, recurses := true, loops := true, plainKeys := false, apart := false, narrowed := true }
def CollectBelowUptoSaid : Prop := collectBelowUptoRow.holds Try.pinned (OpenSpec.upto collectBelowSpec)

/-- 'seinelaw19.MergeSays', WHERE WHAT IT READS IS OF BULK AT MOST 1048576: true; the input reads as it did. -/
def mergeSaysUptoRow : OpenClaim := { program := "ytfbaogfcpldlnaa", sum := "1dee1cdf3b42da8cdd3e3bfa51c4029a490e35b4f0de3c395711114cb47ca762", func := "seine/seinelaw19.MergeSays", spec := "mergeSays", unfollowed := true, recurses := true, loops := true, plainKeys := false, apart := false, narrowed := true }
def MergeSaysUptoSaid : Prop := mergeSaysUptoRow.holds Try.pinned (OpenSpec.upto mergeSaysSpec)

/-- 'seinelaw19.MergeAlike', WHERE WHAT IT READS IS OF BULK AT MOST 1048576: true; the input reads as it did. -/
def mergeAlikeUptoRow : OpenClaim := { program := "ytfbaogfcpldlnaa", sum := "1dee1cdf3b42da8cdd3e3bfa51c4029a490e35b4f0de3c395711114cb47ca762", func := "seine/seinelaw19.MergeAlike", spec := "mergeAlike", unfollowed := true, recurses := true, loops := true, plainKeys := false, apart := false, narrowed := true }
def MergeAlikeUptoSaid : Prop := mergeAlikeUptoRow.holds Try.pinned (OpenSpec.upto mergeAlikeSpec)

end Rows
end Go.Proofs.Ytfbaogfcpldlnaa
