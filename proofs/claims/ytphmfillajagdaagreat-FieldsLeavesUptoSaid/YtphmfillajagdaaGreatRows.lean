/-
  NARROWER THAN 'FOR EVERY INPUT', by the rows' own cells (each row's printed sentence says how): DirsPut: loops · DirsBare: loops · ArgsRules: loops · FieldsLeaves: loops · VarsRules: loops · VarsMore: loops.
  DERIVED. THE GIVEN ROWS OF THIS SEAT. 6 by the template 'for every input the law returns true; each argument reads behind the call as it read before'; 0 by the template 'total and deterministic' (their statements: YtphmfillajagdaaGreatTotals.lean).
  GIVEN WITH THE SEED: the statements are not yours to turn. If you find one false, say at which input.
  Laid BY PROGRAM, IN A SANDBOX (cutbox-rows.mjs): the forced cells as the released guide's own fill.sh prints them over the translation c884b28c6f589e7d… (all of the seat's roots in one cut). By AI agents, Wed Nov 11 2026. No macro, syntax, notation, axiom, sorry.
-/
import Derived.Test.YtphmfillajagdaaGreatChecked
import GoSem.Claim
import GoSem.ClaimJoined
import GoSem.ClaimMapViews
import Derived.JoinedTies
import Derived.KernelRfl
namespace Go.Proofs.YtphmfillajagdaaGreat
/- THE CELL 'sum', in the pinned program and in every row, IS THE sha256 OF THE DUMP (.gsa) THAT YtphmfillajagdaaGreatProg.lean LOADS. Nothing in Lean hashes anything: it is a label: what it is worth is what the hold of that sum in a sandbox is worth. -/
noncomputable def Tryz.pinned : Pinned := { name := "ytphmfillajagdaagreat", sum := "c884b28c6f589e7db6f3e7b2b5ef28c7828304f42b2f4550645d5e73000355de", checked := Tryz.checked }
namespace Rows
def none {H : Type} : Left H := { results := [], args := [] }

/-- 'seinelaw15.DirsPut': WHATEVER THE INPUT: true; the input reads as it did. -/
def dirsPutSpec : ChangeSpec := { name := "dirsPut", fn := fun _ => fun
  | [d1, d2, d3] => { results := [.lit (.bool true)], args := [d1, d2, d3] }
  | _ => none }
def dirsPutRow : OpenClaim := { program := "ytphmfillajagdaagreat", sum := "c884b28c6f589e7db6f3e7b2b5ef28c7828304f42b2f4550645d5e73000355de", func := "seine/seinelaw15.DirsPut", spec := "dirsPut", unfollowed := true, recurses := true, loops := true, apart := false }
def DirsPutSaid : Prop := dirsPutRow.holds Tryz.pinned (OpenSpec.ofChange dirsPutSpec)

/-- ITS FALSE NEIGHBOUR: 'it returns false'. Refute it at one input. -/
def dirsPutWrong : ChangeSpec := { name := "dirsPut", fn := fun _ => fun
  | [d1, d2, d3] => { results := [.lit (.bool false)], args := [d1, d2, d3] }
  | _ => none }
def DirsPutWrongFalsely : Prop := dirsPutRow.holds Tryz.pinned (OpenSpec.ofChange dirsPutWrong)

/-- 'seinelaw15.DirsBare': WHATEVER THE INPUT: true; the input reads as it did. -/
def dirsBareSpec : ChangeSpec := { name := "dirsBare", fn := fun _ => fun
  | [d1, d2] => { results := [.lit (.bool true)], args := [d1, d2] }
  | _ => none }
def dirsBareRow : OpenClaim := { program := "ytphmfillajagdaagreat", sum := "c884b28c6f589e7db6f3e7b2b5ef28c7828304f42b2f4550645d5e73000355de", func := "seine/seinelaw15.DirsBare", spec := "dirsBare", unfollowed := true, recurses := true, loops := true, apart := false }
def DirsBareSaid : Prop := dirsBareRow.holds Tryz.pinned (OpenSpec.ofChange dirsBareSpec)

/-- ITS FALSE NEIGHBOUR: 'it returns false'. Refute it at one input. -/
def dirsBareWrong : ChangeSpec := { name := "dirsBare", fn := fun _ => fun
  | [d1, d2] => { results := [.lit (.bool false)], args := [d1, d2] }
  | _ => none }
def DirsBareWrongFalsely : Prop := dirsBareRow.holds Tryz.pinned (OpenSpec.ofChange dirsBareWrong)

/-- 'seinelaw16.ArgsRules': WHATEVER THE INPUT: true; the input reads as it did. -/
def argsRulesSpec : ChangeSpec := { name := "argsRules", fn := fun _ => fun
  | [d1, d2, d3] => { results := [.lit (.bool true)], args := [d1, d2, d3] }
  | _ => none }
def argsRulesRow : OpenClaim := { program := "ytphmfillajagdaagreat", sum := "c884b28c6f589e7db6f3e7b2b5ef28c7828304f42b2f4550645d5e73000355de", func := "seine/seinelaw16.ArgsRules", spec := "argsRules", unfollowed := true, recurses := true, loops := true, apart := false }
def ArgsRulesSaid : Prop := argsRulesRow.holds Tryz.pinned (OpenSpec.ofChange argsRulesSpec)

/-- ITS FALSE NEIGHBOUR: 'it returns false'. Refute it at one input. -/
def argsRulesWrong : ChangeSpec := { name := "argsRules", fn := fun _ => fun
  | [d1, d2, d3] => { results := [.lit (.bool false)], args := [d1, d2, d3] }
  | _ => none }
def ArgsRulesWrongFalsely : Prop := argsRulesRow.holds Tryz.pinned (OpenSpec.ofChange argsRulesWrong)

/-- 'seinelaw14.FieldsLeaves': WHATEVER THE INPUT: true; the input reads as it did. -/
def fieldsLeavesSpec : ChangeSpec := { name := "fieldsLeaves", fn := fun _ => fun
  | [d1, d2] => { results := [.lit (.bool true)], args := [d1, d2] }
  | _ => none }
def fieldsLeavesRow : OpenClaim := { program := "ytphmfillajagdaagreat", sum := "c884b28c6f589e7db6f3e7b2b5ef28c7828304f42b2f4550645d5e73000355de", func := "seine/seinelaw14.FieldsLeaves", spec := "fieldsLeaves", unfollowed := true, recurses := true, loops := true, apart := false }
def FieldsLeavesSaid : Prop := fieldsLeavesRow.holds Tryz.pinned (OpenSpec.ofChange fieldsLeavesSpec)

/-- ITS FALSE NEIGHBOUR: 'it returns false'. Refute it at one input. -/
def fieldsLeavesWrong : ChangeSpec := { name := "fieldsLeaves", fn := fun _ => fun
  | [d1, d2] => { results := [.lit (.bool false)], args := [d1, d2] }
  | _ => none }
def FieldsLeavesWrongFalsely : Prop := fieldsLeavesRow.holds Tryz.pinned (OpenSpec.ofChange fieldsLeavesWrong)

/-- 'seinelaw17.VarsRules': WHATEVER THE INPUT: true; the input reads as it did. -/
def varsRulesSpec : ChangeSpec := { name := "varsRules", fn := fun _ => fun
  | [d1, d2, d3] => { results := [.lit (.bool true)], args := [d1, d2, d3] }
  | _ => none }
def varsRulesRow : OpenClaim := { program := "ytphmfillajagdaagreat", sum := "c884b28c6f589e7db6f3e7b2b5ef28c7828304f42b2f4550645d5e73000355de", func := "seine/seinelaw17.VarsRules", spec := "varsRules", inPlace := ["slices.overlaps[string]"], unfollowed := true, recurses := true, loops := true, apart := false }
def VarsRulesSaid : Prop := varsRulesRow.holds Tryz.pinned (OpenSpec.ofChange varsRulesSpec)

/-- ITS FALSE NEIGHBOUR: 'it returns false'. Refute it at one input. -/
def varsRulesWrong : ChangeSpec := { name := "varsRules", fn := fun _ => fun
  | [d1, d2, d3] => { results := [.lit (.bool false)], args := [d1, d2, d3] }
  | _ => none }
def VarsRulesWrongFalsely : Prop := varsRulesRow.holds Tryz.pinned (OpenSpec.ofChange varsRulesWrong)

/-- 'seinelaw17.VarsMore': WHATEVER THE INPUT: true; the input reads as it did. -/
def varsMoreSpec : ChangeSpec := { name := "varsMore", fn := fun _ => fun
  | [d1, d2, d3] => { results := [.lit (.bool true)], args := [d1, d2, d3] }
  | _ => none }
def varsMoreRow : OpenClaim := { program := "ytphmfillajagdaagreat", sum := "c884b28c6f589e7db6f3e7b2b5ef28c7828304f42b2f4550645d5e73000355de", func := "seine/seinelaw17.VarsMore", spec := "varsMore", inPlace := ["slices.overlaps[string]"], unfollowed := true, recurses := true, loops := true, apart := false }
def VarsMoreSaid : Prop := varsMoreRow.holds Tryz.pinned (OpenSpec.ofChange varsMoreSpec)

/-- ITS FALSE NEIGHBOUR: 'it returns false'. Refute it at one input. -/
def varsMoreWrong : ChangeSpec := { name := "varsMore", fn := fun _ => fun
  | [d1, d2, d3] => { results := [.lit (.bool false)], args := [d1, d2, d3] }
  | _ => none }
def VarsMoreWrongFalsely : Prop := varsMoreRow.holds Tryz.pinned (OpenSpec.ofChange varsMoreWrong)

/- THE SECOND FORM. 'bulk': how many values and letters a reading holds, each counted each time it is reached (what is shared counts as often as it is met; a slice's spare places count too). A statement '..UptoSaid' is the law's where the arguments, and the package variables that the reading takes, are together of bulk at most 1048576: NARROWER than '..Said'. Prove '..Said' where nothing that the law and all that it calls make is longer than what came in: it says more and counts as full. Else prove '..UptoSaid'. A law counts once. -/
mutual
def uptoBulk {H : Type} : DataW H → Nat
  | .lit (.string bytes) => bytes.length + 1
  | .lit _ => 1
  | .nil => 1
  | .ptr d => uptoBulk d + 1
  | .slice elems spare => uptoBulkAll elems + uptoBulkAll spare + 1
  | .agg parts => uptoBulkAll parts + 1
  | .iface _ d => uptoBulk d + 1
  | .map entries => uptoBulkEntries entries + 1
  | .held _ => 1
def uptoBulkAll {H : Type} : List (DataW H) → Nat
  | [] => 0
  | d :: r => uptoBulk d + uptoBulkAll r
def uptoBulkEntries {H : Type} : List (Lit × DataW H) → Nat
  | [] => 0
  | x :: r => uptoBulkEntry x + uptoBulkEntries r
def uptoBulkEntry {H : Type} : Lit × DataW H → Nat
  | (.string bytes, d) => bytes.length + uptoBulk d + 1
  | (_, d) => uptoBulk d + 1
 end
def uptoSmall : (H : Type) → List (DataW H) → Bool := fun _ ds => decide (uptoBulkAll ds ≤ 1048576)
def OpenSpec.upto (s : _root_.Go.ChangeSpec) : _root_.Go.OpenSpec := { _root_.Go.OpenSpec.ofChange s with cond := some uptoSmall }

/-- 'seinelaw15.DirsPut', WHERE WHAT IT READS IS OF BULK AT MOST 1048576: true; the input reads as it did. -/
def dirsPutUptoRow : OpenClaim := { program := "ytphmfillajagdaagreat", sum := "c884b28c6f589e7db6f3e7b2b5ef28c7828304f42b2f4550645d5e73000355de", func := "seine/seinelaw15.DirsPut", spec := "dirsPut", unfollowed := true, recurses := true, loops := true, apart := false, narrowed := true }
def DirsPutUptoSaid : Prop := dirsPutUptoRow.holds Tryz.pinned (OpenSpec.upto dirsPutSpec)

/-- 'seinelaw15.DirsBare', WHERE WHAT IT READS IS OF BULK AT MOST 1048576: true; the input reads as it did. -/
def dirsBareUptoRow : OpenClaim := { program := "ytphmfillajagdaagreat", sum := "c884b28c6f589e7db6f3e7b2b5ef28c7828304f42b2f4550645d5e73000355de", func := "seine/seinelaw15.DirsBare", spec := "dirsBare", unfollowed := true, recurses := true, loops := true, apart := false, narrowed := true }
def DirsBareUptoSaid : Prop := dirsBareUptoRow.holds Tryz.pinned (OpenSpec.upto dirsBareSpec)

/-- 'seinelaw16.ArgsRules', WHERE WHAT IT READS IS OF BULK AT MOST 1048576: true; the input reads as it did. -/
def argsRulesUptoRow : OpenClaim := { program := "ytphmfillajagdaagreat", sum := "c884b28c6f589e7db6f3e7b2b5ef28c7828304f42b2f4550645d5e73000355de", func := "seine/seinelaw16.ArgsRules", spec := "argsRules", unfollowed := true, recurses := true, loops := true, apart := false, narrowed := true }
def ArgsRulesUptoSaid : Prop := argsRulesUptoRow.holds Tryz.pinned (OpenSpec.upto argsRulesSpec)

/-- 'seinelaw14.FieldsLeaves', WHERE WHAT IT READS IS OF BULK AT MOST 1048576: true; the input reads as it did. -/
def fieldsLeavesUptoRow : OpenClaim := { program := "ytphmfillajagdaagreat", sum := "c884b28c6f589e7db6f3e7b2b5ef28c7828304f42b2f4550645d5e73000355de", func := "seine/seinelaw14.FieldsLeaves", spec := "fieldsLeaves", unfollowed := true, recurses := true, loops := true, apart := false, narrowed := true }
def FieldsLeavesUptoSaid : Prop := fieldsLeavesUptoRow.holds Tryz.pinned (OpenSpec.upto fieldsLeavesSpec)

/-- 'seinelaw17.VarsRules', WHERE WHAT IT READS IS OF BULK AT MOST 1048576: true; the input reads as it did. -/
def varsRulesUptoRow : OpenClaim := { program := "ytphmfillajagdaagreat", sum := "c884b28c6f589e7db6f3e7b2b5ef28c7828304f42b2f4550645d5e73000355de", func := "seine/seinelaw17.VarsRules", spec := "varsRules", inPlace := ["slices.overlaps[string]"], unfollowed := true, recurses := true, loops := true, apart := false, narrowed := true }
def VarsRulesUptoSaid : Prop := varsRulesUptoRow.holds Tryz.pinned (OpenSpec.upto varsRulesSpec)

/-- 'seinelaw17.VarsMore', WHERE WHAT IT READS IS OF BULK AT MOST 1048576: true; the input reads as it did. -/
def varsMoreUptoRow : OpenClaim := { program := "ytphmfillajagdaagreat", sum := "c884b28c6f589e7db6f3e7b2b5ef28c7828304f42b2f4550645d5e73000355de", func := "seine/seinelaw17.VarsMore", spec := "varsMore", inPlace := ["slices.overlaps[string]"], unfollowed := true, recurses := true, loops := true, apart := false, narrowed := true }
def VarsMoreUptoSaid : Prop := varsMoreUptoRow.holds Tryz.pinned (OpenSpec.upto varsMoreSpec)

end Rows
end Go.Proofs.YtphmfillajagdaaGreat
