/-
  TopWitness: the card.
-/
import Derived.Test.YteaaijgkmcjcaaaGreatDoorWh
import Derived.ChangeShapes
import Derived.Deep.DeepHandedRow
import Derived.Deep.DeepWitnessRowRef
import Derived.Lib.LaidTab
import Derived.WalkKit
import Derived.ProofKit
import Derived.OpenShut
import Derived.JoinedCond
import Derived.Test.YteaaijgkmcjcaaaGreatDoorCards
set_option linter.unusedVariables false
set_option linter.unusedSimpArgs false
open Go Go.ChangeShapes
namespace Go.Proofs.YteaaijgkmcjcaaaGreatDoor
theorem own : ownKnob Tryz.prog.godebug = none := by kernel_rfl
theorem contract (H : Type) (enc : TypeId × Value → H) (W : World) (args : Array Value) (ds gs : List (DataW H)) (before : List MemPlace)
    (hW : DataW.Whole enc Tryz.prog Tryz.f3.params.toList Rows.topWitnessSpec.vars false W args.toList ds gs before) :
    Calls Tryz.prog 3 args W fun e W' => ∃ v, e = .returned v ∧ Rows.topWitnessSpec.post enc Tryz.prog Tryz.f3 false true false false W args v W' := by
  have hW' := hW
  obtain ⟨p, q, hA0, hV, rfl, hfz, hnd⟩ := hW
  obtain ⟨rfl, rfl⟩ := trodVars_none hV
  have hA : DataW.TrodAll enc Tryz.prog W 0 (fun _ => true) true Tryz.f3.params.toList args.toList ds p := hA0
  rw [Tryz.params3] at hA
  obtain ⟨h1, rfl, rfl⟩ := trodAll_nil (show DataW.TrodAll enc Tryz.prog W 0 (fun _ => true) true [] args.toList ds p from hA)
  obtain rfl : args = #[] := Array.ext' h1
  refine (Go.Tw.topCalls W).mono ?_
  rintro e W' ⟨rfl, hb⟩
  refine ⟨_, rfl, [], [], [] ++ [], [], [], [], hW', ?_, ?_, rfl, hb.frame _, fun h => by simp at h⟩
  · show DataW.TrodAll enc Tryz.prog W' W.heap.size (fun _ => false) false [4] [.bool true] [.lit (.bool true)] []
    exact trodAll_mk1 ⟨1, by simp [Value.cells, DataW.trod, Tryz.underlying4]⟩
  · show DataW.TrodAll enc Tryz.prog W' 0 (fun b => decide (b < W.heap.size)) true [] [] [] []
    exact trodAll_mk0

def litV : DataW Unit → Value
  | .lit (.int k n) => .int k n
  | _ => undef
def valsOf : DataW Unit → Array Value
  | .agg l => (l.map litV).toArray
  | _ => #[]
def valsOf2 : DataW Unit → Array Value
  | .agg l => (l.map fun x => (valsOf x).toList).flatten.toArray
  | _ => #[]
noncomputable def laidWorld (os : Os) : World :=
  let w0 := World.holding Tryz.prog os ⟨#[], #[], []⟩
  let put (h : Array Obj) (g : Nat) (cs : Array Value) : Array Obj := h.modify g fun
    | .cells _ t frozen => .cells cs t frozen
    | o => o
  let n := w0.heap.size
  let h0 := put w0.heap 0 (valsOf Rows.laid_unicode_utf8_first)
  let h1 := put h0 1 (valsOf2 Rows.laid_unicode_utf8_acceptRanges)
  let h2 := put h1 2 (valsOf Rows.laid_internal_strconv_uint64pow10)
  let h4 := put h2 4 (valsOf Rows.laid_math_bits_deBruijn32tab)
  let h5 := put h4 5 (valsOf Rows.laid_math_bits_deBruijn64tab)
  let h6 := put h5 6 #[.iface 606 (.pointer (some ⟨n, 0, none⟩))]
  let h7 := put h6 7 #[.iface 606 (.pointer (some ⟨n + 1, 0, none⟩))]
  { w0 with heap := (h7.push (.cells #[.string ⟨#[105, 110, 118, 97, 108, 105, 100, 32, 115, 121, 110, 116, 97, 120]⟩] 608 (0, 0))).push (.cells #[.string ⟨#[118, 97, 108, 117, 101, 32, 111, 117, 116, 32, 111, 102, 32, 114, 97, 110, 103, 101]⟩] 608 (0, 0)) }
theorem met1 (os : Os) : (DataW.laidRun Tryz.prog ((laidWorld os).forCall (fun _ _ => 0) ⟨#[], #[], []⟩).memory 8 (Rows.topWitnessUptoRow.laid.map (·.1))).map (·.1) = some Rows.topWitnessUptoRow.laid := by kernel_rfl
theorem met2 (os : Os) : (DataW.laidRun Tryz.prog ((laidWorld os).forCall (fun _ _ => 0) ⟨#[], #[], []⟩).memory 8 (Rows.topWitnessUptoRow.laid.map (·.1))).map (fun x => decide x.2.Nodup && laidRowsB Tryz.prog ((laidWorld os).forCall (fun _ _ => 0) ⟨#[], #[], []⟩).memory x.2) = some true := by kernel_rfl
theorem laid_met (os : Os) : laidMet Tryz.prog Rows.topWitnessUptoRow.laid ((laidWorld os).forCall (fun _ _ => 0) ⟨#[], #[], []⟩).memory :=
  laidMet_of_run' 8 (met1 os) (met2 os)
theorem reads (os : Os) {H : Type} (enc : TypeId × Value → H) : ∃ places, DataW.whole enc Tryz.prog ((laidWorld os).forCall (fun _ _ => 0) ⟨#[], #[], []⟩).memory Tryz.f3.params.toList Rows.topWitnessSpec.vars false (#[] : Array Value).toList 8 = some ([], [], places) :=
  ⟨[], by kernel_rfl⟩
theorem wit1 (os : Os) : ((laidWorld os).forCall (fun _ _ => 0) ⟨#[], #[], []⟩).variablesRefB Tryz.prog = true := by kernel_rfl
theorem wit2 (os : Os) : (((laidWorld os).forCall (fun _ _ => 0) ⟨#[], #[], []⟩).heap.toList.drop Tryz.prog.globals.size).take ((begin Tryz.prog (fun _ _ => 0) default).world.heap.size - Tryz.prog.globals.size) =
      (begin Tryz.prog (fun _ _ => 0) default).world.heap.toList.drop Tryz.prog.globals.size := by kernel_rfl
theorem wit3 (os : Os) : Input.okWideB Tryz.prog ((laidWorld os).forCall (fun _ _ => 0) ⟨#[], #[], []⟩) 3 ⟨#[], #[], []⟩ = true := by kernel_rfl
set_option maxRecDepth 100000 in
theorem lifted (os : Os) (started : os.Started) (H : Type) (enc : TypeId × Value → H) (F : Stop.Interp) :
    ReturnsInHanded {} Tryz.checked os 3 .any ((Rows.OpenSpec.upto Rows.topWitnessSpec).preRow enc Tryz.prog Tryz.f3 Rows.topWitnessUptoRow.domain false Rows.topWitnessUptoRow.laid) (((Rows.OpenSpec.upto Rows.topWitnessSpec).at F).post enc Tryz.prog Tryz.f3 false true false false) := by
  obtain ⟨places, hx⟩ := reads os enc
  refine returnsInHanded_of_row (C := Tryz.checked) (s := Rows.OpenSpec.upto Rows.topWitnessSpec) own started (by kernel_rfl) Tryz.func3
    (witness_row_atRef (enc := enc) (C := Tryz.checked) false (laidWorld os) #[] rfl (wit1 os) (wit2 os) (wit3 os)
      (OpenSpec.preRow_of_cond 8 hx (by kernel_rfl) (fun k hk => by cases hk; kernel_rfl) (by kernel_rfl) (laid_met os))) ?_
  intro W base args ds gs before hval hW _ hcond _ hL _ _
  exact contract H enc W args ds gs before hW
end Go.Proofs.YteaaijgkmcjcaaaGreatDoor
