/-
  The program's text lays what the row lists: the card's tie, fact by fact.
-/
import Derived.Test.YteaaijgkmcjcaaaGreatDoorRows
import Derived.LaidByTextLater
import Derived.SevenTiedAt
namespace Go.Proofs.YteaaijgkmcjcaaaGreatDoor
open Go
abbrev nm (k : Nat) : String := Rows.topWitnessUptoRow.named.getD k ""
abbrev lst : List (String × DataW Unit) := [(nm 0, Rows.laid_strconv_ErrSyntax), (nm 1, Rows.laid_strconv_ErrRange), (nm 2, Rows.laid_internal_strconv_uint64pow10), (nm 3, Rows.laid_math_bits_deBruijn32tab), (nm 4, Rows.laid_math_bits_deBruijn64tab), (nm 6, Rows.laid_unicode_utf8_acceptRanges)]
theorem ta : Tryz.prog.worded (varsWordLater true) = true ∧ Tryz.prog.worded (varsWordLater !true) = false ∧ Tryz.prog.worded rootWordLater = true := ⟨by kernel_rfl, by kernel_rfl, by kernel_rfl⟩
theorem tb : lst.map (fun x => Tryz.prog.kindOfLater x.1) = [LaidKind.sentinel, .sentinel, .data, .data, .data, .data].map some := by kernel_rfl
theorem tc : (Tryz.prog.funcNamed "gosem.cut.vars").isSome = true := by kernel_rfl
theorem tn : varsNamedLaterB Tryz.prog (varsId Tryz.prog) lst = true := by kernel_rfl
theorem td : ∀ os tape, varsDone Tryz.prog 400 (varsId Tryz.prog) os tape = true := fun _ _ => by kernel_rfl
theorem te : ∀ os tape, (DataW.laidRun Tryz.prog (varsWorld Tryz.prog 400 (varsId Tryz.prog) os tape).memory 8 (lst.map (·.1))).map (·.1) = some lst := fun _ _ => by kernel_rfl
theorem tf : ∀ os tape, (DataW.laidRun Tryz.prog (varsWorld Tryz.prog 400 (varsId Tryz.prog) os tape).memory 8 (lst.map (·.1))).map (fun x => decide x.2.Nodup && laidRowsB Tryz.prog (varsWorld Tryz.prog 400 (varsId Tryz.prog) os tape).memory x.2) = some true := fun _ _ => by kernel_rfl
theorem tieL : Tryz.prog.laidByTextLater lst [.sentinel, .sentinel, .data, .data, .data, .data] true :=
  Program.laidByTextLater_by_run 400 8 ta.1 ta.2.1 ta.2.2 tb tc tn td te tf
theorem pinF : Tryz.pinned.checked.prog.pinnedFits (nm 5) = true := by kernel_rfl
theorem noU : Tryz.pinned.checked.prog.headLifts.contains "ownunsafe" = false := by kernel_rfl
theorem fitsL : Tryz.pinned.checked.prog.listedFits Rows.topWitnessUptoRow.laid = true := by
  unfold Program.listedFits
  rw [noU]
  kernel_rfl
theorem tieR : Rows.topWitnessUptoRow.laidByTextAt .later Tryz.pinned [.sentinel, .sentinel, .data, .data, .data, .pinned, .data] true :=
  OpenClaim.laidByTextAt_pinned rfl rfl tieL rfl rfl rfl rfl (fun y hy _e => by
    simp only [Rows.topWitnessUptoRow, List.zip_cons_cons, List.zip_nil_right, List.mem_cons, List.mem_nil_iff, or_false] at hy
    rcases hy with rfl | rfl | rfl | rfl | rfl | rfl | rfl
    · cases _e
    · cases _e
    · cases _e
    · cases _e
    · cases _e
    · exact ⟨pinF, by kernel_rfl⟩
    · cases _e) fitsL
end Go.Proofs.YteaaijgkmcjcaaaGreatDoor
