/-
  CollectBelow: what stands below fields, and which types a fragment is for, is the page's. Conditions: none beside the row's own (bulk at most 1048576).
-/
import Derived.Test.YtfbaogfcpldlnaaWc
import Derived.Test.YtfbaogfcpldlnaaGa
import Derived.Test.YtfbaogfcpldlnaaRows
import Derived.WalkKit
import Derived.ProofKit
import Derived.OpenShut
import Derived.JoinedCond
import Derived.Test.YtfbaogfcpldlnaaEd
set_option linter.unusedVariables false
set_option linter.unusedSimpArgs false
/-
  CollectBelow: what stands below fields, and which types a fragment is for, is the page's. Conditions: none beside the row's own (bulk at most 1048576).
-/
set_option linter.unusedVariables false
open Go Go.Ev
open Go.ChangeShapes Go.WideShapes Go.ChangeAt Go.RowKit
namespace Go.Proofs.Ytfbaogfcpldlnaa
namespace collectBelow
def fs : Ty := (.fcons (.ext 7) (.fcons .str (.fcons .str (.fcons (.sl (.ext 9)) .fnil))))
theorem lawF : ∀ x : fs.den RS, good RS fs x → bulkL RS fs x ≤ 1048576 → OL Try.prog MT XT 8 (encL RS fs x) [] = some (.bool true, []) := by
  rintro ⟨x0, x1, x2, x3, _⟩ g b
  have b' : bkSchema x0 + (bkStr x1 + (bkStr x2 + ((bkSl bkSel) x3 + (0)))) ≤ 1048576 := b
  obtain ⟨g0, g1, g2, g3, _⟩ := g
  have g0' : gdSchema x0 := g0
  have g1' : gd1 x1 := g1
  have g2' : gd1 x2 := g2
  have g3' : (gdSl gdSel) x3 := g3
  have e : encL RS fs (x0, x1, x2, x3, ()) = [encSchema x0, PV.str x1, PV.str x2, .slice (List.map encSel x3) [] false] := rfl
  rw [e]
  change O 8 _ _ = _
  have h := seinelaw25_CollectBelow_spec (seinelaw25_CollectBelow_ok x0 x1 x2 x3 (by have e3 := bkSels_eq x3; have f3 : bkSl bkSel x3 = sumL bkSel x3 + 1 := rfl; omega))
  simpa only [tys, seinelaw25_CollectBelowE] using h
set_option maxRecDepth 100000 in
theorem contract (H : Type) (enc : TypeId × Value → H) (W : World) (base : Nat) (args : Array Value) (ds gs : List (DataW H)) (before : List MemPlace)
    (hval : ∀ (j : Nat) t v, Try.f8.params[j]? = some t → args[j]? = some v → Value.okWide Try.prog W .any base t v)
    (hW : DataW.Whole enc Try.prog Try.f8.params.toList Rows.collectBelowSpec.vars false W args.toList ds gs before) (hk : Rows.uptoSmall H (ds ++ gs) = true) :
    Calls Try.prog 8 args W fun e W' => ∃ v, e = .returned v ∧ Rows.collectBelowSpec.post enc Try.prog Try.f8 false true false false W args v W' := by
  have hg : gs = [] := by
    obtain ⟨p, q, hA, hV, _⟩ := hW
    exact (trodVars_none hV).1
  have hb : Rows.uptoBulkAll ds ≤ 1048576 := by
    have := of_decide_eq_true hk
    simpa [hg] using this
  have hlen : ds.length = 4 := by
    obtain ⟨p, q, hA0, hV, _⟩ := hW
    have hA : DataW.TrodAll enc Try.prog W 0 (fun _ => true) true Try.f8.params.toList args.toList ds p := hA0
    rw [Try.params8] at hA
    obtain ⟨v0, vs0, d0, ds0, p0, q0, h0, rfl, rfl, ht0, r0⟩ := trodAll_cons hA
    obtain ⟨v1, vs1, d1, ds1, p1, q1, h1, rfl, rfl, ht1, r1⟩ := trodAll_cons r0
    obtain ⟨v2, vs2, d2, ds2, p2, q2, h2, rfl, rfl, ht2, r2⟩ := trodAll_cons r1
    obtain ⟨v3, vs3, d3, ds3, p3, q3, h3, rfl, rfl, ht3, r3⟩ := trodAll_cons r2
    obtain ⟨rfl, rfl, rfl⟩ := trodAll_nil r3
    rfl
  refine contract_true pok xok laid blOk Try.func8 rfl (n := 9) (ρ := RS) (τ := TS) (fs := fs) (tb := 4) (by kernel_rfl) (by rw [show Try.f8.resultTypes = #[4] from rfl]) Try.underlying4 rfl (rok enc W blOk) ?_ hval hW hb lawF
  subst hg
  match ds, hlen with
  | [d0, d1, d2, d3], _ => exact ⟨rfl, rfl, rfl⟩
set_option maxRecDepth 100000 in
theorem lifted (os : Os) (started : os.Started) (H : Type) (enc : TypeId × Value → H) (F : Stop.Interp) :
    ReturnsInHanded {} Try.checked os 8 .any ((Rows.OpenSpec.upto Rows.collectBelowSpec).pre6 enc Try.prog Try.f8 Rows.collectBelowUptoRow.domain false) (((Rows.OpenSpec.upto Rows.collectBelowSpec).at F).post enc Try.prog Try.f8 false true false false) := by
  refine returnsInHanded_of_cond (C := Try.checked) (s := Rows.OpenSpec.upto Rows.collectBelowSpec) (k := Rows.uptoSmall) rfl own started (by kernel_rfl) Try.func8
    (OpenSpec.witness (enc := enc) (C := Try.checked) (s := Rows.OpenSpec.upto Rows.collectBelowSpec) (k := Rows.uptoSmall) rfl false ⟨#[], #[.agg #[.slice none 0 0, .string ⟨#[]⟩, .string ⟨#[]⟩], .string ⟨#[]⟩, .string ⟨#[]⟩, .slice none 0 0], []⟩ 8 (by kernel_rfl) (by kernel_rfl) (by kernel_rfl)
      (x := ([.agg [.nil, .lit (.string []), .lit (.string [])], .lit (.string []), .lit (.string []), .nil], [], [])) (by kernel_rfl) rfl (by kernel_rfl)) ?_
  intro W base args ds gs before hval hW _ hk _
  exact contract H enc W base args ds gs before hval hW hk
theorem over : Rows.collectBelowUptoRow.holds Try.pinned (Rows.OpenSpec.upto Rows.collectBelowSpec) :=
  OpenClaim.holds_of_cond 8 Try.f8 rfl rfl rfl rfl rfl rfl rfl ⟨rfl, rfl, rfl, rfl, rfl⟩ rfl rfl rfl rfl rfl (by kernel_rfl) Try.func8 (by kernel_rfl)
    (of_decide_eq_true (by kernel_rfl)) (by unfold Func.isWrapper; first | (rw [if_pos (by decide +kernel)]; kernel_rfl) | (rw [if_neg (by decide +kernel)]; exact ⟨rfl, rfl⟩))
    (fun os started H enc _ F => lifted os started H enc F)
theorem proved : Rows.CollectBelowUptoSaid :=
  over
end collectBelow
end Go.Proofs.Ytfbaogfcpldlnaa
