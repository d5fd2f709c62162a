/-
  The row's closed facts, together.
-/
import Derived.Test.YteaaijgkmcjcaaaGreatDoorWk
open Go
namespace Go.Proofs.YteaaijgkmcjcaaaGreatDoor
set_option maxRecDepth 1000000
theorem loQ : laidOutB Tryz.pinned.checked.prog = true := by kernel_rfl
theorem mrQ : mapsRowed Tryz.pinned.checked.prog = true := by kernel_rfl
theorem pkQ : (Rows.topWitnessUptoRow.plainKeys == Tryz.pinned.checked.prog.plainKeys) = true := by kernel_rfl
theorem ntQ : namedTie Tryz.pinned.checked.prog Rows.topWitnessUptoRow.named (Rows.OpenSpec.upto Rows.topWitnessSpec).bare.vars = true := by kernel_rfl
theorem jf : joinedFacts Tryz.pinned.checked.prog 3 Tryz.f3 (Rows.OpenSpec.upto Rows.topWitnessSpec).bare Rows.topWitnessUptoRow = true := by
  unfold joinedFacts
  rw [inpQ, recQ, unfR, varQ, loQ, mrQ, pkQ, ntQ]
  kernel_rfl
end Go.Proofs.YteaaijgkmcjcaaaGreatDoor
