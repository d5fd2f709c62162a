/-
  The row's closed facts.
-/
import Derived.Test.YteaaijgkmcjcaaaGreatDoorWj
import Derived.JoinedCond
import Derived.SevenTiedAt
open Go
namespace Go.Proofs.YteaaijgkmcjcaaaGreatDoor
set_option maxRecDepth 1000000
theorem unfQ : Tryz.pinned.checked.prog.unfollowed 3 = true := by
  show ((Tryz.prog.closure 3).any fun g => (Tryz.prog.funcs[g]?).any fun fn => match fn.body with | some c => c.unfollowed | none => entryCalls fn) = true
  rw [clo]
  kernel_rfl
theorem inpQ : (Rows.topWitnessUptoRow.inPlace == Tryz.pinned.checked.prog.inPlace 3) = true := by
  show (Rows.topWitnessUptoRow.inPlace == (Tryz.prog.closure 3).filterMap fun g => (Tryz.prog.funcs[g]?).bind fun fn => if fn.ours || fn.body.isNone || fn.name == "runtime.NumGoroutine" then some fn.name else none) = true
  rw [clo]
  kernel_rfl
theorem recQ : (Rows.topWitnessUptoRow.recurses == Tryz.pinned.checked.prog.recurses 3) = true := by
  unfold Program.recurses
  rw [unfQ]
  kernel_rfl
theorem unfR : (Rows.topWitnessUptoRow.unfollowed == Tryz.pinned.checked.prog.unfollowed 3) = true := by
  rw [unfQ]
  kernel_rfl
theorem varQ : (Rows.topWitnessUptoRow.named == Tryz.pinned.checked.prog.varsNamed 3) = true := by
  show (Rows.topWitnessUptoRow.named == ((((Tryz.prog.closure 3).flatMap fun g => ((Tryz.prog.funcs[g]?).bind (·.body)).elim [] Code.globalsNamed).eraseDups).filterMap (fun g => (Tryz.prog.globals[g]?).map (·.name)) ++
   (Tryz.prog.closure 3).filterMap fun g => (Tryz.prog.funcs[g]?).bind fun fn => if fn.body.isNone then entryReads.lookup fn.name else none).eraseDups) = true
  rw [clo]
  kernel_rfl
theorem goesL : Tryz.prog.funcs.toList.all (fun g => !g.goes) = true := by kernel_rfl
theorem gs : false = Rows.topWitnessUptoRow.goesBy Tryz.pinned.checked.prog := by
  have h : ∀ (g : Nat) (fn : Func), Tryz.prog.funcs[g]? = some fn → fn.goes = false := fun g fn hg => by
    have := List.all_eq_true.1 goesL fn (List.mem_of_getElem? (i := g) (by simpa using hg))
    simpa using this
  have h1 : ∀ f, Tryz.prog.goes f = false := fun f => by
    unfold Program.goes
    have e1 : ((Tryz.prog.closure f).any fun g => (Tryz.prog.funcs[g]?).any Func.goes) = false := by
      rw [List.any_eq_false]
      intro g _
      cases hg : Tryz.prog.funcs[g]? with
      | none => simp
      | some fn => simp [h g fn hg]
    have e2 : Tryz.prog.funcs.any Func.goes = false := by
      rw [Array.any_eq_false]
      intro i hi
      have := h i _ (Array.getElem?_eq_getElem hi)
      simp [this]
    rw [e1, e2]
    simp
  show false = (Tryz.prog.goesFrom Rows.topWitnessUptoRow.func || false)
  unfold Program.goesFrom
  cases Tryz.prog.funcNamed Rows.topWitnessUptoRow.func with
  | none => rfl
  | some f => simp [h1 f]
end Go.Proofs.YteaaijgkmcjcaaaGreatDoor
