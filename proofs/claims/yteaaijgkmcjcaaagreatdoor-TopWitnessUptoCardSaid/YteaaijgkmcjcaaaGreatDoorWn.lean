/-
  TopWitness: W1 to W5 are not of nothing: a list of users with one boss, read in three batches at two levels; a null that goes up; a mutation whose second command is refused; a closed statement.
  Conditions: none but the row's own (the variables of the library that the card lists hold what their initialisers lay).
-/
import Derived.Test.YteaaijgkmcjcaaaGreatDoorWm
import Derived.Test.YteaaijgkmcjcaaaGreatDoorWl
import Derived.Test.YteaaijgkmcjcaaaGreatDoorWi
import Derived.SevenTiedAt
set_option linter.unusedVariables false
open Go
namespace Go.Proofs.YteaaijgkmcjcaaaGreatDoor
theorem nam : Tryz.prog.funcNamed Rows.topWitnessUptoRow.func = some 3 := by kernel_rfl
theorem ins : Tryz.f3.isInstance Tryz.pinned.checked.prog Rows.topWitnessUptoRow.origin Rows.topWitnessUptoRow.targs := of_decide_eq_true (by kernel_rfl)
theorem wra : Tryz.f3.isWrapper Tryz.pinned.checked.prog Rows.topWitnessUptoRow.wrapper Rows.topWitnessUptoRow.mainSum := by unfold Func.isWrapper; first | (rw [if_pos (by decide +kernel)]; kernel_rfl) | (rw [if_neg (by decide +kernel)]; exact ⟨rfl, rfl⟩)
theorem over : Rows.topWitnessUptoRow.holds Tryz.pinned (Rows.OpenSpec.upto Rows.topWitnessSpec) :=
  OpenClaim.holds_of_cond 3 Tryz.f3 rfl rfl rfl rfl rfl rfl rfl ⟨rfl, rfl, rfl, rfl, rfl⟩ rfl rfl rfl rfl rfl nam Tryz.func3 jf ins wra
    (fun os started H enc _ F => by rw [OpenClaim.pre_eq_preRow]; exact lifted os started H enc F)
theorem lks : true = Tryz.pinned.checked.prog.looks [] := by kernel_rfl
theorem plain (f : FuncId) (fn : Func) (hf : Tryz.pinned.checked.prog.funcNamed Rows.topWitnessUptoRow.func = some f) (hfn : Tryz.pinned.checked.prog.funcs[f]? = some fn) :
    true = Tryz.pinned.checked.prog.looks [] ∧ ∀ (j : Nat) t, fn.params[j]? = some t → Tryz.pinned.checked.prog.wantsStandIn t = false := by
  obtain rfl : f = 3 := Option.some.inj (nam.symm.trans hf) |>.symm
  obtain rfl : fn = Tryz.f3 := (Option.some.inj (Tryz.func3.symm.trans hfn)).symm
  exact ⟨lks, fun j t ht => by rw [Tryz.params3] at ht; simp at ht⟩
theorem wf : Rows.topWitnessUptoRow.wfByText (Rows.OpenSpec.upto Rows.topWitnessSpec) = true := by kernel_rfl
theorem mn : Tryz.pinned.checked.prog.mainIs = some (true, "3fa7ba8570e8e33549ce9910bd3879f1b747de20325ad01ef420ca44c62db078".toList) := by kernel_rfl
namespace topWitness
theorem proved : Rows.TopWitnessUptoCardSaid :=
  Claim7.holds_tied_plain_at .later [] _ _ _ _ over (fun _ h => by cases h) wf (fun _ h => by cases h) tieR rfl ⟨rfl, rfl⟩ mn rfl plain gs
end topWitness
end Go.Proofs.YteaaijgkmcjcaaaGreatDoor
