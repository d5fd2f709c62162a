/-
  NARROWER THAN 'FOR EVERY INPUT', by the rows' own cells (each row's printed sentence says how): UsageAllows: loops · UsageOwn: loops · TreeUps: loops · TreeChains: loops · TreeMusts: loops · TreeParts: loops.
  DERIVED. THE GIVEN ROWS OF THIS SEAT. 6 by the template 'for every input the law returns true; each argument reads behind the call as it read before'; 0 by the template 'total and deterministic' (their statements: YtoddajoeiamidaaTotals.lean).
  GIVEN WITH THE SEED: the statements are not yours to turn. If you find one false, say at which input.
  Laid BY PROGRAM, IN A SANDBOX (cutbox-rows.mjs): the forced cells as the released guide's own fill.sh prints them over the translation c096666b1c461851… (all of the seat's roots in one cut). By AI agents, Wed Nov 11 2026. No macro, syntax, notation, axiom, sorry.
-/
import Derived.Test.YtoddajoeiamidaaChecked
import GoSem.Claim
import GoSem.ClaimJoined
import GoSem.ClaimMapViews
import Derived.JoinedTies
import Derived.KernelRfl
namespace Go.Proofs.Ytoddajoeiamidaa
/- THE CELL 'sum', in the pinned program and in every row, IS THE sha256 OF THE DUMP (.gsa) THAT YtoddajoeiamidaaProg.lean LOADS. Nothing in Lean hashes anything: it is a label: what it is worth is what the hold of that sum in a sandbox is worth. -/
noncomputable def Try.pinned : Pinned := { name := "ytoddajoeiamidaa", sum := "c096666b1c461851d2ae4fcdbeb8550bc092c458a996c7be1d7acf00cf72836b", checked := Try.checked }
namespace Rows
def none {H : Type} : Left H := { results := [], args := [] }

/-- 'seinelaw18.UsageAllows': WHATEVER THE INPUT: true; the input reads as it did. -/
def usageAllowsSpec : ChangeSpec := { name := "usageAllows", fn := fun _ => fun
  | [d1, d2, d3] => { results := [.lit (.bool true)], args := [d1, d2, d3] }
  | _ => none }
def usageAllowsRow : OpenClaim := { program := "ytoddajoeiamidaa", sum := "c096666b1c461851d2ae4fcdbeb8550bc092c458a996c7be1d7acf00cf72836b", func := "seine/seinelaw18.UsageAllows", spec := "usageAllows", recurses := true, loops := true, apart := false }
def UsageAllowsSaid : Prop := usageAllowsRow.holds Try.pinned (OpenSpec.ofChange usageAllowsSpec)

/-- ITS FALSE NEIGHBOUR: 'it returns false'. Refute it at one input. -/
def usageAllowsWrong : ChangeSpec := { name := "usageAllows", fn := fun _ => fun
  | [d1, d2, d3] => { results := [.lit (.bool false)], args := [d1, d2, d3] }
  | _ => none }
def UsageAllowsWrongFalsely : Prop := usageAllowsRow.holds Try.pinned (OpenSpec.ofChange usageAllowsWrong)

/-- 'seinelaw18.UsageOwn': WHATEVER THE INPUT: true; the input reads as it did. -/
def usageOwnSpec : ChangeSpec := { name := "usageOwn", fn := fun _ => fun
  | [d1, d2] => { results := [.lit (.bool true)], args := [d1, d2] }
  | _ => none }
def usageOwnRow : OpenClaim := { program := "ytoddajoeiamidaa", sum := "c096666b1c461851d2ae4fcdbeb8550bc092c458a996c7be1d7acf00cf72836b", func := "seine/seinelaw18.UsageOwn", spec := "usageOwn", recurses := true, loops := true, apart := false }
def UsageOwnSaid : Prop := usageOwnRow.holds Try.pinned (OpenSpec.ofChange usageOwnSpec)

/-- ITS FALSE NEIGHBOUR: 'it returns false'. Refute it at one input. -/
def usageOwnWrong : ChangeSpec := { name := "usageOwn", fn := fun _ => fun
  | [d1, d2] => { results := [.lit (.bool false)], args := [d1, d2] }
  | _ => none }
def UsageOwnWrongFalsely : Prop := usageOwnRow.holds Try.pinned (OpenSpec.ofChange usageOwnWrong)

/-- 'seinelaw32.TreeUps': WHATEVER THE INPUT: true; the input reads as it did. -/
def treeUpsSpec : ChangeSpec := { name := "treeUps", fn := fun _ => fun
  | [d] => { results := [.lit (.bool true)], args := [d] }
  | _ => none }
def treeUpsRow : OpenClaim := { program := "ytoddajoeiamidaa", sum := "c096666b1c461851d2ae4fcdbeb8550bc092c458a996c7be1d7acf00cf72836b", func := "seine/seinelaw32.TreeUps", spec := "treeUps", recurses := true, loops := true, apart := false }
def TreeUpsSaid : Prop := treeUpsRow.holds Try.pinned (OpenSpec.ofChange treeUpsSpec)

/-- ITS FALSE NEIGHBOUR: 'it returns false'. Refute it at one input. -/
def treeUpsWrong : ChangeSpec := { name := "treeUps", fn := fun _ => fun
  | [d] => { results := [.lit (.bool false)], args := [d] }
  | _ => none }
def TreeUpsWrongFalsely : Prop := treeUpsRow.holds Try.pinned (OpenSpec.ofChange treeUpsWrong)

/-- 'seinelaw32.TreeChains': WHATEVER THE INPUT: true; the input reads as it did. -/
def treeChainsSpec : ChangeSpec := { name := "treeChains", fn := fun _ => fun
  | [d] => { results := [.lit (.bool true)], args := [d] }
  | _ => none }
def treeChainsRow : OpenClaim := { program := "ytoddajoeiamidaa", sum := "c096666b1c461851d2ae4fcdbeb8550bc092c458a996c7be1d7acf00cf72836b", func := "seine/seinelaw32.TreeChains", spec := "treeChains", recurses := true, loops := true, apart := false }
def TreeChainsSaid : Prop := treeChainsRow.holds Try.pinned (OpenSpec.ofChange treeChainsSpec)

/-- ITS FALSE NEIGHBOUR: 'it returns false'. Refute it at one input. -/
def treeChainsWrong : ChangeSpec := { name := "treeChains", fn := fun _ => fun
  | [d] => { results := [.lit (.bool false)], args := [d] }
  | _ => none }
def TreeChainsWrongFalsely : Prop := treeChainsRow.holds Try.pinned (OpenSpec.ofChange treeChainsWrong)

/-- 'seinelaw32.TreeMusts': WHATEVER THE INPUT: true; the input reads as it did. -/
def treeMustsSpec : ChangeSpec := { name := "treeMusts", fn := fun _ => fun
  | [d] => { results := [.lit (.bool true)], args := [d] }
  | _ => none }
def treeMustsRow : OpenClaim := { program := "ytoddajoeiamidaa", sum := "c096666b1c461851d2ae4fcdbeb8550bc092c458a996c7be1d7acf00cf72836b", func := "seine/seinelaw32.TreeMusts", spec := "treeMusts", recurses := true, loops := true, apart := false }
def TreeMustsSaid : Prop := treeMustsRow.holds Try.pinned (OpenSpec.ofChange treeMustsSpec)

/-- ITS FALSE NEIGHBOUR: 'it returns false'. Refute it at one input. -/
def treeMustsWrong : ChangeSpec := { name := "treeMusts", fn := fun _ => fun
  | [d] => { results := [.lit (.bool false)], args := [d] }
  | _ => none }
def TreeMustsWrongFalsely : Prop := treeMustsRow.holds Try.pinned (OpenSpec.ofChange treeMustsWrong)

/-- 'seinelaw32.TreeParts': WHATEVER THE INPUT: true; the input reads as it did. -/
def treePartsSpec : ChangeSpec := { name := "treeParts", fn := fun _ => fun
  | [d1, d2] => { results := [.lit (.bool true)], args := [d1, d2] }
  | _ => none }
def treePartsRow : OpenClaim := { program := "ytoddajoeiamidaa", sum := "c096666b1c461851d2ae4fcdbeb8550bc092c458a996c7be1d7acf00cf72836b", func := "seine/seinelaw32.TreeParts", spec := "treeParts", recurses := true, loops := true, apart := false }
def TreePartsSaid : Prop := treePartsRow.holds Try.pinned (OpenSpec.ofChange treePartsSpec)

/-- ITS FALSE NEIGHBOUR: 'it returns false'. Refute it at one input. -/
def treePartsWrong : ChangeSpec := { name := "treeParts", fn := fun _ => fun
  | [d1, d2] => { results := [.lit (.bool false)], args := [d1, d2] }
  | _ => none }
def TreePartsWrongFalsely : Prop := treePartsRow.holds Try.pinned (OpenSpec.ofChange treePartsWrong)

/- THE SECOND FORM. 'bulk': how many values and letters a reading holds, each counted each time it is reached (what is shared counts as often as it is met; a slice's spare places count too). A statement '..UptoSaid' is the law's where the arguments, and the package variables that the reading takes, are together of bulk at most 1048576: NARROWER than '..Said'. Prove '..Said' where nothing that the law and all that it calls make is longer than what came in: it says more and counts as full. Else prove '..UptoSaid'. A law counts once. -/
mutual
def uptoBulk {H : Type} : DataW H → Nat
  | .lit (.string bytes) => bytes.length + 1
  | .lit _ => 1
  | .nil => 1
  | .ptr d => uptoBulk d + 1
  | .slice elems spare => uptoBulkAll elems + uptoBulkAll spare + 1
  | .agg parts => uptoBulkAll parts + 1
  | .iface _ d => uptoBulk d + 1
  | .map entries => uptoBulkEntries entries + 1
  | .held _ => 1
def uptoBulkAll {H : Type} : List (DataW H) → Nat
  | [] => 0
  | d :: r => uptoBulk d + uptoBulkAll r
def uptoBulkEntries {H : Type} : List (Lit × DataW H) → Nat
  | [] => 0
  | x :: r => uptoBulkEntry x + uptoBulkEntries r
def uptoBulkEntry {H : Type} : Lit × DataW H → Nat
  | (.string bytes, d) => bytes.length + uptoBulk d + 1
  | (_, d) => uptoBulk d + 1
 end
def uptoSmall : (H : Type) → List (DataW H) → Bool := fun _ ds => decide (uptoBulkAll ds ≤ 1048576)
def OpenSpec.upto (s : _root_.Go.ChangeSpec) : _root_.Go.OpenSpec := { _root_.Go.OpenSpec.ofChange s with cond := some uptoSmall }

/-- 'seinelaw18.UsageAllows', WHERE WHAT IT READS IS OF BULK AT MOST 1048576: true; the input reads as it did. -/
def usageAllowsUptoRow : OpenClaim := { program := "ytoddajoeiamidaa", sum := "c096666b1c461851d2ae4fcdbeb8550bc092c458a996c7be1d7acf00cf72836b", func := "seine/seinelaw18.UsageAllows", spec := "usageAllows", recurses := true, loops := true, apart := false, narrowed := true }
def UsageAllowsUptoSaid : Prop := usageAllowsUptoRow.holds Try.pinned (OpenSpec.upto usageAllowsSpec)

/-- 'seinelaw18.UsageOwn', WHERE WHAT IT READS IS OF BULK AT MOST 1048576: true; the input reads as it did. -/
def usageOwnUptoRow : OpenClaim := { program := "ytoddajoeiamidaa", sum := "c096666b1c461851d2ae4fcdbeb8550bc092c458a996c7be1d7acf00cf72836b", func := "seine/seinelaw18.UsageOwn", spec := "usageOwn", recurses := true, loops := true, apart := false, narrowed := true }
def UsageOwnUptoSaid : Prop := usageOwnUptoRow.holds Try.pinned (OpenSpec.upto usageOwnSpec)

/-- 'seinelaw32.TreeUps', WHERE WHAT IT READS IS OF BULK AT MOST 1048576: true; the input reads as it did. -/
def treeUpsUptoRow : OpenClaim := { program := "ytoddajoeiamidaa", sum := "c096666b1c461851d2ae4fcdbeb8550bc092c458a996c7be1d7acf00cf72836b", func := "seine/seinelaw32.TreeUps", spec := "treeUps", recurses := true, loops := true, apart := false, narrowed := true }
def TreeUpsUptoSaid : Prop := treeUpsUptoRow.holds Try.pinned (OpenSpec.upto treeUpsSpec)

/-- 'seinelaw32.TreeChains', WHERE WHAT IT READS IS OF BULK AT MOST 1048576: true; the input reads as it did. -/
def treeChainsUptoRow : OpenClaim := { program := "ytoddajoeiamidaa", sum := "c096666b1c461851d2ae4fcdbeb8550bc092c458a996c7be1d7acf00cf72836b", func := "seine/seinelaw32.TreeChains", spec := "treeChains", recurses := true, loops := true, apart := false, narrowed := true }
def TreeChainsUptoSaid : Prop := treeChainsUptoRow.holds Try.pinned (OpenSpec.upto treeChainsSpec)

/-- 'seinelaw32.TreeMusts', WHERE WHAT IT READS IS OF BULK AT MOST 1048576: true; the input reads as it did. -/
def treeMustsUptoRow : OpenClaim := { program := "ytoddajoeiamidaa", sum := "c096666b1c461851d2ae4fcdbeb8550bc092c458a996c7be1d7acf00cf72836b", func := "seine/seinelaw32.TreeMusts", spec := "treeMusts", recurses := true, loops := true, apart := false, narrowed := true }
def TreeMustsUptoSaid : Prop := treeMustsUptoRow.holds Try.pinned (OpenSpec.upto treeMustsSpec)

/-- 'seinelaw32.TreeParts', WHERE WHAT IT READS IS OF BULK AT MOST 1048576: true; the input reads as it did. -/
def treePartsUptoRow : OpenClaim := { program := "ytoddajoeiamidaa", sum := "c096666b1c461851d2ae4fcdbeb8550bc092c458a996c7be1d7acf00cf72836b", func := "seine/seinelaw32.TreeParts", spec := "treeParts", recurses := true, loops := true, apart := false, narrowed := true }
def TreePartsUptoSaid : Prop := treePartsUptoRow.holds Try.pinned (OpenSpec.upto treePartsSpec)

end Rows
end Go.Proofs.Ytoddajoeiamidaa
