/-
  DERIVED. GIVEN WITH THE SEED: THE CARDS: each row of YtafndpggajdmiaaDoorRows.lean that lists a variable, with what it lists TIED to the program's text (the seventh form; the later family's looks); each row that meets fmt, with fmt's text TOLD by the authors' own Lean function (tested against real Go, not proved from fmt's source: count such statements apart). THE CARD IS WHAT COUNTS. Prove the row's statement (the work); the ties are given (YtafndpggajdmiaaDoorTie.lean); close each card by the builder's one call (the guide's Derived/Test/ToyasCard.lean, 'card_holds'). Laid BY PROGRAM, IN A SANDBOX (cutbox-door.mjs). By AI agents, Wed Nov 11 2026. No macro, syntax, notation, axiom, sorry.
-/
import Derived.Test.YtafndpggajdmiaaDoorRows
import GoSem.ClaimSeven
namespace Go.Proofs.YtafndpggajdmiaaDoor
namespace Rows

/-- THE TIED CARD OF 'seinelaw3.TokenReads'. -/
def tokenReadsCard : Claim7 := { stood := { row := tokenReadsRow, standIns := [], harness := (true, "8f209ccb251d63f6dce40de63da64bcf57da3fbe08baa0665cb010c9904892ea"), looks := false }, kinds := [], alts := [], laidByText := true, laidKinds := [.data, .pinned], laidTests := true, laidLooks := .later }
def TokenReadsCardSaid : Prop := Claim7.holds Tryd.pinned (.plain (OpenSpec.ofChange tokenReadsSpec)) tokenReadsCard

/-- THE TIED CARD OF 'seinelaw3.TokenNumbers'. -/
def tokenNumbersCard : Claim7 := { stood := { row := tokenNumbersRow, standIns := [], harness := (true, "8f209ccb251d63f6dce40de63da64bcf57da3fbe08baa0665cb010c9904892ea"), looks := false }, kinds := [], alts := [], laidByText := true, laidKinds := [.data, .pinned], laidTests := true, laidLooks := .later }
def TokenNumbersCardSaid : Prop := Claim7.holds Tryd.pinned (.plain (OpenSpec.ofChange tokenNumbersSpec)) tokenNumbersCard

/-- THE TIED CARD OF 'seinelaw3.TokenRoom'. -/
def tokenRoomCard : Claim7 := { stood := { row := tokenRoomRow, standIns := [], harness := (true, "8f209ccb251d63f6dce40de63da64bcf57da3fbe08baa0665cb010c9904892ea"), looks := false }, kinds := [], alts := [], laidByText := true, laidKinds := [.data, .pinned], laidTests := true, laidLooks := .later }
def TokenRoomCardSaid : Prop := Claim7.holds Tryd.pinned (.plain (OpenSpec.ofChange tokenRoomSpec)) tokenRoomCard

/-- THE TIED CARD OF 'seinelaw3.TokenUnits'. -/
def tokenUnitsCard : Claim7 := { stood := { row := tokenUnitsRow, standIns := [], harness := (true, "8f209ccb251d63f6dce40de63da64bcf57da3fbe08baa0665cb010c9904892ea"), looks := false }, kinds := [], alts := [], laidByText := true, laidKinds := [.data, .pinned], laidTests := true, laidLooks := .later }
def TokenUnitsCardSaid : Prop := Claim7.holds Tryd.pinned (.plain (OpenSpec.ofChange tokenUnitsSpec)) tokenUnitsCard

/-- THE TIED CARD OF 'seinelaw3.TokenBlocks'. -/
def tokenBlocksCard : Claim7 := { stood := { row := tokenBlocksRow, standIns := [], harness := (true, "8f209ccb251d63f6dce40de63da64bcf57da3fbe08baa0665cb010c9904892ea"), looks := false }, kinds := [], alts := [], laidByText := true, laidKinds := [.data, .pinned], laidTests := true, laidLooks := .later }
def TokenBlocksCardSaid : Prop := Claim7.holds Tryd.pinned (.plain (OpenSpec.ofChange tokenBlocksSpec)) tokenBlocksCard

/-- THE TIED CARD OF 'seinelaw3.TokenPrints'. -/
def tokenPrintsCard : Claim7 := { stood := { row := tokenPrintsRow, standIns := [], harness := (true, "8f209ccb251d63f6dce40de63da64bcf57da3fbe08baa0665cb010c9904892ea"), looks := false }, kinds := [], alts := [], laidByText := true, laidKinds := [.data, .pinned], laidTests := true, laidLooks := .later }
def TokenPrintsCardSaid : Prop := Claim7.holds Tryd.pinned (.plain (OpenSpec.ofChange tokenPrintsSpec)) tokenPrintsCard

/-- THE TIED CARD OF 'seinelaw3.TokenBack'. -/
def tokenBackCard : Claim7 := { stood := { row := tokenBackRow, standIns := [], harness := (true, "8f209ccb251d63f6dce40de63da64bcf57da3fbe08baa0665cb010c9904892ea"), looks := false }, kinds := [], alts := [], laidByText := true, laidKinds := [.data, .pinned], laidTests := true, laidLooks := .later }
def TokenBackCardSaid : Prop := Claim7.holds Tryd.pinned (.plain (OpenSpec.ofChange tokenBackSpec)) tokenBackCard

/-- THE TIED CARD OF 'seinelaw3.TokenGaps'. -/
def tokenGapsCard : Claim7 := { stood := { row := tokenGapsRow, standIns := [], harness := (true, "8f209ccb251d63f6dce40de63da64bcf57da3fbe08baa0665cb010c9904892ea"), looks := false }, kinds := [], alts := [], laidByText := true, laidKinds := [.data, .pinned], laidTests := true, laidLooks := .later }
def TokenGapsCardSaid : Prop := Claim7.holds Tryd.pinned (.plain (OpenSpec.ofChange tokenGapsSpec)) tokenGapsCard

/-- THE SECOND FORM's CARD OF 'seinelaw3.TokenReads'. -/
def tokenReadsUptoCard : Claim7 := { stood := { row := tokenReadsUptoRow, standIns := [], harness := (true, "8f209ccb251d63f6dce40de63da64bcf57da3fbe08baa0665cb010c9904892ea"), looks := false }, kinds := [], alts := [], laidByText := true, laidKinds := [.data, .pinned], laidTests := true, laidLooks := .later }
def TokenReadsUptoCardSaid : Prop := Claim7.holds Tryd.pinned (.plain (OpenSpec.upto tokenReadsSpec)) tokenReadsUptoCard

/-- THE SECOND FORM's CARD OF 'seinelaw3.TokenNumbers'. -/
def tokenNumbersUptoCard : Claim7 := { stood := { row := tokenNumbersUptoRow, standIns := [], harness := (true, "8f209ccb251d63f6dce40de63da64bcf57da3fbe08baa0665cb010c9904892ea"), looks := false }, kinds := [], alts := [], laidByText := true, laidKinds := [.data, .pinned], laidTests := true, laidLooks := .later }
def TokenNumbersUptoCardSaid : Prop := Claim7.holds Tryd.pinned (.plain (OpenSpec.upto tokenNumbersSpec)) tokenNumbersUptoCard

/-- THE SECOND FORM's CARD OF 'seinelaw3.TokenRoom'. -/
def tokenRoomUptoCard : Claim7 := { stood := { row := tokenRoomUptoRow, standIns := [], harness := (true, "8f209ccb251d63f6dce40de63da64bcf57da3fbe08baa0665cb010c9904892ea"), looks := false }, kinds := [], alts := [], laidByText := true, laidKinds := [.data, .pinned], laidTests := true, laidLooks := .later }
def TokenRoomUptoCardSaid : Prop := Claim7.holds Tryd.pinned (.plain (OpenSpec.upto tokenRoomSpec)) tokenRoomUptoCard

/-- THE SECOND FORM's CARD OF 'seinelaw3.TokenUnits'. -/
def tokenUnitsUptoCard : Claim7 := { stood := { row := tokenUnitsUptoRow, standIns := [], harness := (true, "8f209ccb251d63f6dce40de63da64bcf57da3fbe08baa0665cb010c9904892ea"), looks := false }, kinds := [], alts := [], laidByText := true, laidKinds := [.data, .pinned], laidTests := true, laidLooks := .later }
def TokenUnitsUptoCardSaid : Prop := Claim7.holds Tryd.pinned (.plain (OpenSpec.upto tokenUnitsSpec)) tokenUnitsUptoCard

/-- THE SECOND FORM's CARD OF 'seinelaw3.TokenBlocks'. -/
def tokenBlocksUptoCard : Claim7 := { stood := { row := tokenBlocksUptoRow, standIns := [], harness := (true, "8f209ccb251d63f6dce40de63da64bcf57da3fbe08baa0665cb010c9904892ea"), looks := false }, kinds := [], alts := [], laidByText := true, laidKinds := [.data, .pinned], laidTests := true, laidLooks := .later }
def TokenBlocksUptoCardSaid : Prop := Claim7.holds Tryd.pinned (.plain (OpenSpec.upto tokenBlocksSpec)) tokenBlocksUptoCard

/-- THE SECOND FORM's CARD OF 'seinelaw3.TokenPrints'. -/
def tokenPrintsUptoCard : Claim7 := { stood := { row := tokenPrintsUptoRow, standIns := [], harness := (true, "8f209ccb251d63f6dce40de63da64bcf57da3fbe08baa0665cb010c9904892ea"), looks := false }, kinds := [], alts := [], laidByText := true, laidKinds := [.data, .pinned], laidTests := true, laidLooks := .later }
def TokenPrintsUptoCardSaid : Prop := Claim7.holds Tryd.pinned (.plain (OpenSpec.upto tokenPrintsSpec)) tokenPrintsUptoCard

/-- THE SECOND FORM's CARD OF 'seinelaw3.TokenBack'. -/
def tokenBackUptoCard : Claim7 := { stood := { row := tokenBackUptoRow, standIns := [], harness := (true, "8f209ccb251d63f6dce40de63da64bcf57da3fbe08baa0665cb010c9904892ea"), looks := false }, kinds := [], alts := [], laidByText := true, laidKinds := [.data, .pinned], laidTests := true, laidLooks := .later }
def TokenBackUptoCardSaid : Prop := Claim7.holds Tryd.pinned (.plain (OpenSpec.upto tokenBackSpec)) tokenBackUptoCard

/-- THE SECOND FORM's CARD OF 'seinelaw3.TokenGaps'. -/
def tokenGapsUptoCard : Claim7 := { stood := { row := tokenGapsUptoRow, standIns := [], harness := (true, "8f209ccb251d63f6dce40de63da64bcf57da3fbe08baa0665cb010c9904892ea"), looks := false }, kinds := [], alts := [], laidByText := true, laidKinds := [.data, .pinned], laidTests := true, laidLooks := .later }
def TokenGapsUptoCardSaid : Prop := Claim7.holds Tryd.pinned (.plain (OpenSpec.upto tokenGapsSpec)) tokenGapsUptoCard
end Rows
end Go.Proofs.YtafndpggajdmiaaDoor
