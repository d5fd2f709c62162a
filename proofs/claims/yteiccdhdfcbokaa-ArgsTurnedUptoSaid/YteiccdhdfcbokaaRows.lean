/-
  NARROWER THAN 'FOR EVERY INPUT', by the rows' own cells (each row's printed sentence says how): ArgsSays: loops · ArgsTurned: loops · ArgsFull: loops.
  DERIVED. THE GIVEN ROWS OF THIS SEAT. 3 by the template 'for every input the law returns true; each argument reads behind the call as it read before'; 0 by the template 'total and deterministic' (their statements: YteiccdhdfcbokaaTotals.lean).
  GIVEN WITH THE SEED: the statements are not yours to turn. If you find one false, say at which input.
  Laid BY PROGRAM, IN A SANDBOX (cutbox-rows.mjs): the forced cells as the released guide's own fill.sh prints them over the translation 1acbe713486ea899… (all of the seat's roots in one cut). By AI agents, Wed Nov 11 2026. No macro, syntax, notation, axiom, sorry.
-/
import Derived.Test.YteiccdhdfcbokaaChecked
import GoSem.Claim
import GoSem.ClaimJoined
import GoSem.ClaimMapViews
import Derived.JoinedTies
import Derived.KernelRfl
namespace Go.Proofs.Yteiccdhdfcbokaa
/- THE CELL 'sum', in the pinned program and in every row, IS THE sha256 OF THE DUMP (.gsa) THAT YteiccdhdfcbokaaProg.lean LOADS. Nothing in Lean hashes anything: it is a label: what it is worth is what the hold of that sum in a sandbox is worth. -/
noncomputable def Try.pinned : Pinned := { name := "yteiccdhdfcbokaa", sum := "1acbe713486ea89951ca020732b26509b4fbd3339e2fb219ffb35309ce465e43", checked := Try.checked }
namespace Rows
def none {H : Type} : Left H := { results := [], args := [] }

/-- 'seinelaw16.ArgsSays': WHATEVER THE INPUT: true; the input reads as it did. -/
def argsSaysSpec : ChangeSpec := { name := "argsSays", fn := fun _ => fun
  | [d1, d2] => { results := [.lit (.bool true)], args := [d1, d2] }
  | _ => none }
def argsSaysRow : OpenClaim := { program := "yteiccdhdfcbokaa", sum := "1acbe713486ea89951ca020732b26509b4fbd3339e2fb219ffb35309ce465e43", func := "seine/seinelaw16.ArgsSays", spec := "argsSays", unfollowed := true, recurses := true, loops := true, apart := false }
def ArgsSaysSaid : Prop := argsSaysRow.holds Try.pinned (OpenSpec.ofChange argsSaysSpec)

/-- ITS FALSE NEIGHBOUR: 'it returns false'. Refute it at one input. -/
def argsSaysWrong : ChangeSpec := { name := "argsSays", fn := fun _ => fun
  | [d1, d2] => { results := [.lit (.bool false)], args := [d1, d2] }
  | _ => none }
def ArgsSaysWrongFalsely : Prop := argsSaysRow.holds Try.pinned (OpenSpec.ofChange argsSaysWrong)

/-- 'seinelaw16.ArgsTurned': WHATEVER THE INPUT: true; the input reads as it did. -/
def argsTurnedSpec : ChangeSpec := { name := "argsTurned", fn := fun _ => fun
  | [d1, d2, d3] => { results := [.lit (.bool true)], args := [d1, d2, d3] }
  | _ => none }
def argsTurnedRow : OpenClaim := { program := "yteiccdhdfcbokaa", sum := "1acbe713486ea89951ca020732b26509b4fbd3339e2fb219ffb35309ce465e43", func := "seine/seinelaw16.ArgsTurned", spec := "argsTurned", unfollowed := true, recurses := true, loops := true, apart := false }
def ArgsTurnedSaid : Prop := argsTurnedRow.holds Try.pinned (OpenSpec.ofChange argsTurnedSpec)

/-- ITS FALSE NEIGHBOUR: 'it returns false'. Refute it at one input. -/
def argsTurnedWrong : ChangeSpec := { name := "argsTurned", fn := fun _ => fun
  | [d1, d2, d3] => { results := [.lit (.bool false)], args := [d1, d2, d3] }
  | _ => none }
def ArgsTurnedWrongFalsely : Prop := argsTurnedRow.holds Try.pinned (OpenSpec.ofChange argsTurnedWrong)

/-- 'seinelaw16.ArgsFull': WHATEVER THE INPUT: true; the input reads as it did. -/
def argsFullSpec : ChangeSpec := { name := "argsFull", fn := fun _ => fun
  | [d1, d2] => { results := [.lit (.bool true)], args := [d1, d2] }
  | _ => none }
def argsFullRow : OpenClaim := { program := "yteiccdhdfcbokaa", sum := "1acbe713486ea89951ca020732b26509b4fbd3339e2fb219ffb35309ce465e43", func := "seine/seinelaw16.ArgsFull", spec := "argsFull", unfollowed := true, recurses := true, loops := true, apart := false }
def ArgsFullSaid : Prop := argsFullRow.holds Try.pinned (OpenSpec.ofChange argsFullSpec)

/-- ITS FALSE NEIGHBOUR: 'it returns false'. Refute it at one input. -/
def argsFullWrong : ChangeSpec := { name := "argsFull", fn := fun _ => fun
  | [d1, d2] => { results := [.lit (.bool false)], args := [d1, d2] }
  | _ => none }
def ArgsFullWrongFalsely : Prop := argsFullRow.holds Try.pinned (OpenSpec.ofChange argsFullWrong)

/- THE SECOND FORM. 'bulk': how many values and letters a reading holds, each counted each time it is reached (what is shared counts as often as it is met; a slice's spare places count too). A statement '..UptoSaid' is the law's where the arguments, and the package variables that the reading takes, are together of bulk at most 1048576: NARROWER than '..Said'. Prove '..Said' where nothing that the law and all that it calls make is longer than what came in: it says more and counts as full. Else prove '..UptoSaid'. A law counts once. -/
mutual
def uptoBulk {H : Type} : DataW H → Nat
  | .lit (.string bytes) => bytes.length + 1
  | .lit _ => 1
  | .nil => 1
  | .ptr d => uptoBulk d + 1
  | .slice elems spare => uptoBulkAll elems + uptoBulkAll spare + 1
  | .agg parts => uptoBulkAll parts + 1
  | .iface _ d => uptoBulk d + 1
  | .map entries => uptoBulkEntries entries + 1
  | .held _ => 1
def uptoBulkAll {H : Type} : List (DataW H) → Nat
  | [] => 0
  | d :: r => uptoBulk d + uptoBulkAll r
def uptoBulkEntries {H : Type} : List (Lit × DataW H) → Nat
  | [] => 0
  | x :: r => uptoBulkEntry x + uptoBulkEntries r
def uptoBulkEntry {H : Type} : Lit × DataW H → Nat
  | (.string bytes, d) => bytes.length + uptoBulk d + 1
  | (_, d) => uptoBulk d + 1
 end
def uptoSmall : (H : Type) → List (DataW H) → Bool := fun _ ds => decide (uptoBulkAll ds ≤ 1048576)
def OpenSpec.upto (s : _root_.Go.ChangeSpec) : _root_.Go.OpenSpec := { _root_.Go.OpenSpec.ofChange s with cond := some uptoSmall }

/-- 'seinelaw16.ArgsSays', WHERE WHAT IT READS IS OF BULK AT MOST 1048576: true; the input reads as it did. -/
def argsSaysUptoRow : OpenClaim := { program := "yteiccdhdfcbokaa", sum := "1acbe713486ea89951ca020732b26509b4fbd3339e2fb219ffb35309ce465e43", func := "seine/seinelaw16.ArgsSays", spec := "argsSays", unfollowed := true, recurses := true, loops := true, apart := false, narrowed := true }
def ArgsSaysUptoSaid : Prop := argsSaysUptoRow.holds Try.pinned (OpenSpec.upto argsSaysSpec)

/-- 'seinelaw16.ArgsTurned', WHERE WHAT IT READS IS OF BULK AT MOST 1048576: true; the input reads as it did. -/
def argsTurnedUptoRow : OpenClaim := { program := "yteiccdhdfcbokaa", sum := "1acbe713486ea89951ca020732b26509b4fbd3339e2fb219ffb35309ce465e43", func := "seine/seinelaw16.ArgsTurned", spec := "argsTurned", unfollowed := true, recurses := true, loops := true, apart := false, narrowed := true }
def ArgsTurnedUptoSaid : Prop := argsTurnedUptoRow.holds Try.pinned (OpenSpec.upto argsTurnedSpec)

/-- 'seinelaw16.ArgsFull', WHERE WHAT IT READS IS OF BULK AT MOST 1048576: true; the input reads as it did. -/
def argsFullUptoRow : OpenClaim := { program := "yteiccdhdfcbokaa", sum := "1acbe713486ea89951ca020732b26509b4fbd3339e2fb219ffb35309ce465e43", func := "seine/seinelaw16.ArgsFull", spec := "argsFull", unfollowed := true, recurses := true, loops := true, apart := false, narrowed := true }
def ArgsFullUptoSaid : Prop := argsFullUptoRow.holds Try.pinned (OpenSpec.upto argsFullSpec)

end Rows
end Go.Proofs.Yteiccdhdfcbokaa
