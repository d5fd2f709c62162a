/-
  DERIVED. GIVEN WITH THE SEED: THE CARDS: each row of YtanjedcndpcgfaaDoorRows.lean that lists a variable, with what it lists TIED to the program's text (the seventh form; the later family's looks); each row that meets fmt, with fmt's text TOLD by the authors' own Lean function (tested against real Go, not proved from fmt's source: count such statements apart). THE CARD IS WHAT COUNTS. Prove the row's statement (the work); the ties are given (YtanjedcndpcgfaaDoorTie.lean); close each card by the builder's one call (the guide's Derived/Test/ToyasCard.lean, 'card_holds'). Laid BY PROGRAM, IN A SANDBOX (cutbox-door.mjs). By AI agents, Wed Nov 11 2026. No macro, syntax, notation, axiom, sorry.
-/
import Derived.Test.YtanjedcndpcgfaaDoorRows
import GoSem.ClaimSeven
namespace Go.Proofs.YtanjedcndpcgfaaDoor
namespace Rows

/-- THE TIED CARD OF 'seinelaw1.LettersJoins'. -/
def lettersJoinsCard : Claim7 := { stood := { row := lettersJoinsRow, standIns := [], harness := (true, "30d52a7a6855c206f70f49f1117fb522f320e0d3082c9a3c43b65b1a2144c577"), looks := false }, kinds := [], alts := [], laidByText := true, laidKinds := [.data, .pinned], laidTests := true, laidLooks := .later }
def LettersJoinsCardSaid : Prop := Claim7.holds Tryd.pinned (.plain (OpenSpec.ofChange lettersJoinsSpec)) lettersJoinsCard

/-- THE TIED CARD OF 'seinelaw1.LettersNames'. -/
def lettersNamesCard : Claim7 := { stood := { row := lettersNamesRow, standIns := [], harness := (true, "30d52a7a6855c206f70f49f1117fb522f320e0d3082c9a3c43b65b1a2144c577"), looks := false }, kinds := [], alts := [], laidByText := true, laidKinds := [.data, .pinned], laidTests := true, laidLooks := .later }
def LettersNamesCardSaid : Prop := Claim7.holds Tryd.pinned (.plain (OpenSpec.ofChange lettersNamesSpec)) lettersNamesCard

/-- THE TIED CARD OF 'seinelaw1.LettersWalks'. -/
def lettersWalksCard : Claim7 := { stood := { row := lettersWalksRow, standIns := [], harness := (true, "30d52a7a6855c206f70f49f1117fb522f320e0d3082c9a3c43b65b1a2144c577"), looks := false }, kinds := [], alts := [], laidByText := true, laidKinds := [.data, .pinned], laidTests := true, laidLooks := .later }
def LettersWalksCardSaid : Prop := Claim7.holds Tryd.pinned (.plain (OpenSpec.ofChange lettersWalksSpec)) lettersWalksCard

/-- THE TIED CARD OF 'seinelaw1.LettersSource'. -/
def lettersSourceCard : Claim7 := { stood := { row := lettersSourceRow, standIns := [], harness := (true, "30d52a7a6855c206f70f49f1117fb522f320e0d3082c9a3c43b65b1a2144c577"), looks := false }, kinds := [], alts := [], laidByText := true, laidKinds := [.data, .pinned], laidTests := true, laidLooks := .later }
def LettersSourceCardSaid : Prop := Claim7.holds Tryd.pinned (.plain (OpenSpec.ofChange lettersSourceSpec)) lettersSourceCard

/-- THE TIED CARD OF 'seinelaw1.LettersBack'. -/
def lettersBackCard : Claim7 := { stood := { row := lettersBackRow, standIns := [], harness := (true, "30d52a7a6855c206f70f49f1117fb522f320e0d3082c9a3c43b65b1a2144c577"), looks := false }, kinds := [], alts := [], laidByText := true, laidKinds := [.data, .pinned], laidTests := true, laidLooks := .later }
def LettersBackCardSaid : Prop := Claim7.holds Tryd.pinned (.plain (OpenSpec.ofChange lettersBackSpec)) lettersBackCard

/-- THE TIED CARD OF 'seinelaw1.LettersSays'. -/
def lettersSaysCard : Claim7 := { stood := { row := lettersSaysRow, standIns := [], harness := (true, "30d52a7a6855c206f70f49f1117fb522f320e0d3082c9a3c43b65b1a2144c577"), looks := false }, kinds := [], alts := [], laidByText := true, laidKinds := [.data, .pinned], laidTests := true, laidLooks := .later }
def LettersSaysCardSaid : Prop := Claim7.holds Tryd.pinned (.plain (OpenSpec.ofChange lettersSaysSpec)) lettersSaysCard

/-- THE SECOND FORM's CARD OF 'seinelaw1.LettersJoins'. -/
def lettersJoinsUptoCard : Claim7 := { stood := { row := lettersJoinsUptoRow, standIns := [], harness := (true, "30d52a7a6855c206f70f49f1117fb522f320e0d3082c9a3c43b65b1a2144c577"), looks := false }, kinds := [], alts := [], laidByText := true, laidKinds := [.data, .pinned], laidTests := true, laidLooks := .later }
def LettersJoinsUptoCardSaid : Prop := Claim7.holds Tryd.pinned (.plain (OpenSpec.upto lettersJoinsSpec)) lettersJoinsUptoCard

/-- THE SECOND FORM's CARD OF 'seinelaw1.LettersNames'. -/
def lettersNamesUptoCard : Claim7 := { stood := { row := lettersNamesUptoRow, standIns := [], harness := (true, "30d52a7a6855c206f70f49f1117fb522f320e0d3082c9a3c43b65b1a2144c577"), looks := false }, kinds := [], alts := [], laidByText := true, laidKinds := [.data, .pinned], laidTests := true, laidLooks := .later }
def LettersNamesUptoCardSaid : Prop := Claim7.holds Tryd.pinned (.plain (OpenSpec.upto lettersNamesSpec)) lettersNamesUptoCard

/-- THE SECOND FORM's CARD OF 'seinelaw1.LettersWalks'. -/
def lettersWalksUptoCard : Claim7 := { stood := { row := lettersWalksUptoRow, standIns := [], harness := (true, "30d52a7a6855c206f70f49f1117fb522f320e0d3082c9a3c43b65b1a2144c577"), looks := false }, kinds := [], alts := [], laidByText := true, laidKinds := [.data, .pinned], laidTests := true, laidLooks := .later }
def LettersWalksUptoCardSaid : Prop := Claim7.holds Tryd.pinned (.plain (OpenSpec.upto lettersWalksSpec)) lettersWalksUptoCard

/-- THE SECOND FORM's CARD OF 'seinelaw1.LettersSource'. -/
def lettersSourceUptoCard : Claim7 := { stood := { row := lettersSourceUptoRow, standIns := [], harness := (true, "30d52a7a6855c206f70f49f1117fb522f320e0d3082c9a3c43b65b1a2144c577"), looks := false }, kinds := [], alts := [], laidByText := true, laidKinds := [.data, .pinned], laidTests := true, laidLooks := .later }
def LettersSourceUptoCardSaid : Prop := Claim7.holds Tryd.pinned (.plain (OpenSpec.upto lettersSourceSpec)) lettersSourceUptoCard

/-- THE SECOND FORM's CARD OF 'seinelaw1.LettersBack'. -/
def lettersBackUptoCard : Claim7 := { stood := { row := lettersBackUptoRow, standIns := [], harness := (true, "30d52a7a6855c206f70f49f1117fb522f320e0d3082c9a3c43b65b1a2144c577"), looks := false }, kinds := [], alts := [], laidByText := true, laidKinds := [.data, .pinned], laidTests := true, laidLooks := .later }
def LettersBackUptoCardSaid : Prop := Claim7.holds Tryd.pinned (.plain (OpenSpec.upto lettersBackSpec)) lettersBackUptoCard

/-- THE SECOND FORM's CARD OF 'seinelaw1.LettersSays'. -/
def lettersSaysUptoCard : Claim7 := { stood := { row := lettersSaysUptoRow, standIns := [], harness := (true, "30d52a7a6855c206f70f49f1117fb522f320e0d3082c9a3c43b65b1a2144c577"), looks := false }, kinds := [], alts := [], laidByText := true, laidKinds := [.data, .pinned], laidTests := true, laidLooks := .later }
def LettersSaysUptoCardSaid : Prop := Claim7.holds Tryd.pinned (.plain (OpenSpec.upto lettersSaysSpec)) lettersSaysUptoCard
end Rows
end Go.Proofs.YtanjedcndpcgfaaDoor
