/-
  DERIVED. GIVEN WITH THE SEED: THE CARDS: each row of YtlaomadhhdcflaaDoorRows.lean that lists a variable, with what it lists TIED to the program's text (the seventh form; the later family's looks); each row that meets fmt, with fmt's text TOLD by the authors' own Lean function (tested against real Go, not proved from fmt's source: count such statements apart). THE CARD IS WHAT COUNTS. Prove the row's statement (the work); the ties are given (YtlaomadhhdcflaaDoorTie.lean); close each card by the builder's one call (the guide's Derived/Test/ToyasCard.lean, 'card_holds'). Laid BY PROGRAM, IN A SANDBOX (cutbox-door.mjs). By AI agents, Wed Nov 11 2026. No macro, syntax, notation, axiom, sorry.
-/
import Derived.Test.YtlaomadhhdcflaaDoorRows
import GoSem.ClaimSeven
namespace Go.Proofs.YtlaomadhhdcflaaDoor
namespace Rows

/-- THE TIED CARD OF 'seinelaw1.LettersJoins'. -/
def lettersJoinsCard : Claim7 := { stood := { row := lettersJoinsRow, standIns := [], harness := (true, "7a5b5c070eef0b653b34e6eda9580b14d0001fb0d0ce2ae422dfc2f4a8282f41"), looks := false }, kinds := [], alts := [], laidByText := true, laidKinds := [.data, .pinned], laidTests := true, laidLooks := .later }
def LettersJoinsCardSaid : Prop := Claim7.holds Tryd.pinned (.plain (OpenSpec.ofChange lettersJoinsSpec)) lettersJoinsCard

/-- THE TIED CARD OF 'seinelaw1.LettersNames'. -/
def lettersNamesCard : Claim7 := { stood := { row := lettersNamesRow, standIns := [], harness := (true, "7a5b5c070eef0b653b34e6eda9580b14d0001fb0d0ce2ae422dfc2f4a8282f41"), looks := false }, kinds := [], alts := [], laidByText := true, laidKinds := [.data, .pinned], laidTests := true, laidLooks := .later }
def LettersNamesCardSaid : Prop := Claim7.holds Tryd.pinned (.plain (OpenSpec.ofChange lettersNamesSpec)) lettersNamesCard

/-- THE SECOND FORM's CARD OF 'seinelaw1.LettersJoins'. -/
def lettersJoinsUptoCard : Claim7 := { stood := { row := lettersJoinsUptoRow, standIns := [], harness := (true, "7a5b5c070eef0b653b34e6eda9580b14d0001fb0d0ce2ae422dfc2f4a8282f41"), looks := false }, kinds := [], alts := [], laidByText := true, laidKinds := [.data, .pinned], laidTests := true, laidLooks := .later }
def LettersJoinsUptoCardSaid : Prop := Claim7.holds Tryd.pinned (.plain (OpenSpec.upto lettersJoinsSpec)) lettersJoinsUptoCard

/-- THE SECOND FORM's CARD OF 'seinelaw1.LettersNames'. -/
def lettersNamesUptoCard : Claim7 := { stood := { row := lettersNamesUptoRow, standIns := [], harness := (true, "7a5b5c070eef0b653b34e6eda9580b14d0001fb0d0ce2ae422dfc2f4a8282f41"), looks := false }, kinds := [], alts := [], laidByText := true, laidKinds := [.data, .pinned], laidTests := true, laidLooks := .later }
def LettersNamesUptoCardSaid : Prop := Claim7.holds Tryd.pinned (.plain (OpenSpec.upto lettersNamesSpec)) lettersNamesUptoCard
end Rows
end Go.Proofs.YtlaomadhhdcflaaDoor
