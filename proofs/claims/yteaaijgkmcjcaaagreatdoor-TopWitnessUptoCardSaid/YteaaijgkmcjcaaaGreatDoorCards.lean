/-
  DERIVED. GIVEN WITH THE SEED: THE CARDS: each row of YteaaijgkmcjcaaaGreatDoorRows.lean that lists a variable, with what it lists TIED to the program's text (the seventh form; the later family's looks); each row that meets fmt, with fmt's text TOLD by the authors' own Lean function (tested against real Go, not proved from fmt's source: count such statements apart). THE CARD IS WHAT COUNTS. Prove the row's statement (the work); the ties are given (YteaaijgkmcjcaaaGreatDoorTie.lean); close each card by the builder's one call (the guide's Derived/Test/ToyasCard.lean, 'card_holds'). Laid BY PROGRAM, IN A SANDBOX (cutbox-door.mjs). By AI agents, Wed Nov 11 2026. No macro, syntax, notation, axiom, sorry.
-/
import Derived.Test.YteaaijgkmcjcaaaGreatDoorRows
import GoSem.ClaimSeven
namespace Go.Proofs.YteaaijgkmcjcaaaGreatDoor
namespace Rows

/-- THE TIED CARD OF 'seinetop.TopWitness'. -/
def topWitnessCard : Claim7 := { stood := { row := topWitnessRow, standIns := [], harness := (true, "3fa7ba8570e8e33549ce9910bd3879f1b747de20325ad01ef420ca44c62db078"), looks := true }, kinds := [], alts := [], laidByText := true, laidKinds := [.sentinel, .sentinel, .data, .data, .data, .pinned, .data], laidTests := true, laidLooks := .later }
def TopWitnessCardSaid : Prop := Claim7.holds Tryz.pinned (.plain (OpenSpec.ofChange topWitnessSpec)) topWitnessCard

/-- THE SECOND FORM's CARD OF 'seinetop.TopWitness'. -/
def topWitnessUptoCard : Claim7 := { stood := { row := topWitnessUptoRow, standIns := [], harness := (true, "3fa7ba8570e8e33549ce9910bd3879f1b747de20325ad01ef420ca44c62db078"), looks := true }, kinds := [], alts := [], laidByText := true, laidKinds := [.sentinel, .sentinel, .data, .data, .data, .pinned, .data], laidTests := true, laidLooks := .later }
def TopWitnessUptoCardSaid : Prop := Claim7.holds Tryz.pinned (.plain (OpenSpec.upto topWitnessSpec)) topWitnessUptoCard
end Rows
end Go.Proofs.YteaaijgkmcjcaaaGreatDoor
