/-
  TopWitness, run; what is known behind it.
-/
import Derived.Test.YteaaijgkmcjcaaaGreatDoorWg1
import Derived.Test.YteaaijgkmcjcaaaGreatDoorWg4
import Derived.Test.YteaaijgkmcjcaaaGreatDoorWg6
import Derived.Test.YteaaijgkmcjcaaaGreatDoorWg7
import Derived.Test.YteaaijgkmcjcaaaGreatDoorWg9
import Derived.Below
set_option linter.unusedVariables false
set_option maxRecDepth 1000000
namespace Go.Tw
open Go.Proofs (Tryz.prog)
def isT : AV → Bool
  | .bool b => b
  | _ => false
theorem topRun : evT [F22, F17, F16, F15, F13, F1] 60 3 [] (.mk .lf 0) (fun v _ => isT v) (fun _ _ => false) = true := by kernel_rfl
theorem topCalls (W : World) : Calls Tryz.prog 3 #[] W fun e W' => e = .returned (.bool true) ∧ Go.RowKit.Below W.heap.size W W' := by
  have hC := evT_ok (fs := [F22, F17, F16, F15, F13, F1]) (and_ok fact22 (and_ok fact17 (and_ok fact16 (and_ok fact15 (and_ok fact13 (and_ok fact1 none_ok)))))) 60
  have H : HR (fun _ => none) W { W := fun _ => False, N := fun _ => False, n0 := 0, ι0 := fun _ => none } (.mk .lf 0) W := by
    refine ⟨fun b hb => (by cases hb), fun b p h => (by cases h), fun b p h => (by cases h), (by show 0 < 15000000; omega), fun b p h => (by cases h), fun b b' p p' l es old _ _ _ h => (by cases h), fun b b' p p' l _ _ _ h => (by cases h), fun _ _ _ => rfl, Nat.le_refl _, rfl, rfl, rfl, fun b p h => (by cases h), fun c h => h.elim, fun b h => (by cases h), Nat.le_refl _⟩
  have h := (hC W _ 3 [] (.mk .lf 0) _ _ topRun (fun _ => none) #[] W .nil (fun g hg => by cases hg) H).2
  refine h.mono fun e W' hq => ?_
  cases e with
  | panicked ch => obtain ⟨_, _, _, _, _, _, _, _, e⟩ := hq; cases e
  | outgrown => exact hq.elim
  | returned v =>
    obtain ⟨κ, av, hp, _, h2, h3, h4⟩ := hq
    have : av = .bool true := by
      cases av <;> first
        | (cases h4; done)
        | skip
      rename_i b
      cases b
      · cases h4
      · rfl
    subst this
    rw [h2.bool_inv]
    exact ⟨rfl, h3.os, h3.tape, h3.output, h3.size, fun k hk => h3.frm k hk (fun h => h)⟩
end Go.Tw
