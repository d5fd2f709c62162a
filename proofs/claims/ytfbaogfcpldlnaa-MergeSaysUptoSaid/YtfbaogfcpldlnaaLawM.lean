import Derived.Test.YtfbaogfcpldlnaaWe
import Derived.Test.YtfbaogfcpldlnaaGa
import Derived.Test.YtfbaogfcpldlnaaRows
import Derived.WalkKit
import Derived.ProofKit
import Derived.OpenShut
import Derived.JoinedCond
import Derived.Test.YtfbaogfcpldlnaaEd
set_option linter.unusedVariables false
set_option linter.unusedSimpArgs false
open Go Go.Ev
open Go.ChangeShapes Go.WideShapes Go.ChangeAt Go.RowKit
namespace Go.Proofs.Ytfbaogfcpldlnaa
namespace mergeSays
def fs : Ty := (.fcons (.ext 7) (.fcons (.ext 9) (.fcons (.ext 9) (.fcons (.ext 0) (.fcons (.ext 0) .fnil)))))
theorem lawF : ∀ x : fs.den RS, good RS fs x → bulkL RS fs x ≤ 1048576 → OL Try.prog MT XT 9 (encL RS fs x) [] = some (.bool true, []) := by
 rintro ⟨x0, x1, x2, x3, x4, _⟩ g b
 have b' : bkSchema x0 + (bkSel x1 + (bkSel x2 + (bkType x3 + (bkType x4 + (0))))) ≤ 1048576 := b
 obtain ⟨g0, g1, g2, g3, g4, _⟩ := g
 have g0' : gdSchema x0 := g0
 have g1' : gdSel x1 := g1
 have g2' : gdSel x2 := g2
 have g3' : gdType x3 := g3
 have g4' : gdType x4 := g4
 have e : encL RS fs (x0, x1, x2, x3, x4, ()) = [encSchema x0, encSel x1, encSel x2, encType x3, encType x4] := rfl
 rw [e]
 change O 9 _ _ = _
 have h := seinelaw19_MergeSays_spec (seinelaw19_MergeSays_ok x0 x1 x2 x3 x4 (by omega) (by omega) (by omega))
 simpa only [tys, seinelaw19_MergeSaysE] using h
set_option maxRecDepth 100000 in
theorem contract (H : Type) (enc : TypeId × Value → H) (W : World) (base : Nat) (args : Array Value) (ds gs : List (DataW H)) (before : List MemPlace)
  (hval : ∀ (j : Nat) t v, Try.f9.params[j]? = some t → args[j]? = some v → Value.okWide Try.prog W .any base t v)
  (hW : DataW.Whole enc Try.prog Try.f9.params.toList Rows.mergeSaysSpec.vars false W args.toList ds gs before) (hk : Rows.uptoSmall H (ds ++ gs) = true) :
  Calls Try.prog 9 args W fun e W' => ∃ v, e = .returned v ∧ Rows.mergeSaysSpec.post enc Try.prog Try.f9 false true false false W args v W' := by
 have hg : gs = [] := by
  obtain ⟨p, q, hA, hV, _⟩ := hW
  exact (trodVars_none hV).1
 have hb : Rows.uptoBulkAll ds ≤ 1048576 := by
  have := of_decide_eq_true hk
  simpa [hg] using this
 have hlen : ds.length = 5 := by
  obtain ⟨p, q, hA0, hV, _⟩ := hW
  have hA : DataW.TrodAll enc Try.prog W 0 (fun _ => true) true Try.f9.params.toList args.toList ds p := hA0
  rw [Try.params9] at hA
  obtain ⟨v0, vs0, d0, ds0, p0, q0, h0, rfl, rfl, ht0, r0⟩ := trodAll_cons hA
  obtain ⟨v1, vs1, d1, ds1, p1, q1, h1, rfl, rfl, ht1, r1⟩ := trodAll_cons r0
  obtain ⟨v2, vs2, d2, ds2, p2, q2, h2, rfl, rfl, ht2, r2⟩ := trodAll_cons r1
  obtain ⟨v3, vs3, d3, ds3, p3, q3, h3, rfl, rfl, ht3, r3⟩ := trodAll_cons r2
  obtain ⟨v4, vs4, d4, ds4, p4, q4, h4, rfl, rfl, ht4, r4⟩ := trodAll_cons r3
  obtain ⟨rfl, rfl, rfl⟩ := trodAll_nil r4
  rfl
 refine contract_true pok xok laid blOk Try.func9 rfl (n := 9) (ρ := RS) (τ := TS) (fs := fs) (tb := 4) (by kernel_rfl) (by rw [show Try.f9.resultTypes = #[4] from rfl]) Try.underlying4 rfl (rok enc W blOk) ?_ hval hW hb lawF
 subst hg
 match ds, hlen with
 | [d0, d1, d2, d3, d4], _ => exact ⟨rfl, rfl, rfl⟩
set_option maxRecDepth 100000 in
theorem lifted (os : Os) (started : os.Started) (H : Type) (enc : TypeId × Value → H) (F : Stop.Interp) :
  ReturnsInHanded {} Try.checked os 9 .any ((Rows.OpenSpec.upto Rows.mergeSaysSpec).pre6 enc Try.prog Try.f9 Rows.mergeSaysUptoRow.domain false) (((Rows.OpenSpec.upto Rows.mergeSaysSpec).at F).post enc Try.prog Try.f9 false true false false) := by
 refine returnsInHanded_of_cond (C := Try.checked) (s := Rows.OpenSpec.upto Rows.mergeSaysSpec) (k := Rows.uptoSmall) rfl own started (by kernel_rfl) Try.func9
  (OpenSpec.witness (enc := enc) (C := Try.checked) (s := Rows.OpenSpec.upto Rows.mergeSaysSpec) (k := Rows.uptoSmall) rfl false ⟨#[], #[.agg #[.slice none 0 0, .string ⟨#[]⟩, .string ⟨#[]⟩], .agg #[.int .i64 0, .string ⟨#[]⟩, .string ⟨#[]⟩, .slice none 0 0, .slice none 0 0, .string ⟨#[]⟩, .slice none 0 0], .agg #[.int .i64 0, .string ⟨#[]⟩, .string ⟨#[]⟩, .slice none 0 0, .slice none 0 0, .string ⟨#[]⟩, .slice none 0 0], .agg #[.string ⟨#[]⟩, .int .i64 0, .int .i64 0], .agg #[.string ⟨#[]⟩, .int .i64 0, .int .i64 0]], []⟩ 8 (by kernel_rfl) (by kernel_rfl) (by kernel_rfl)
   (x := ([.agg [.nil, .lit (.string []), .lit (.string [])], .agg [.lit (.int .i64 0), .lit (.string []), .lit (.string []), .nil, .nil, .lit (.string []), .nil], .agg [.lit (.int .i64 0), .lit (.string []), .lit (.string []), .nil, .nil, .lit (.string []), .nil], .agg [.lit (.string []), .lit (.int .i64 0), .lit (.int .i64 0)], .agg [.lit (.string []), .lit (.int .i64 0), .lit (.int .i64 0)]], [], [])) (by kernel_rfl) rfl (by kernel_rfl)) ?_
 intro W base args ds gs before hval hW _ hk _
 exact contract H enc W base args ds gs before hval hW hk
theorem over : Rows.mergeSaysUptoRow.holds Try.pinned (Rows.OpenSpec.upto Rows.mergeSaysSpec) :=
 OpenClaim.holds_of_cond 9 Try.f9 rfl rfl rfl rfl rfl rfl rfl ⟨rfl, rfl, rfl, rfl, rfl⟩ rfl rfl rfl rfl rfl (by kernel_rfl) Try.func9 (by kernel_rfl)
  (of_decide_eq_true (by kernel_rfl)) (by unfold Func.isWrapper; first | (rw [if_pos (by decide +kernel)]; kernel_rfl) | (rw [if_neg (by decide +kernel)]; exact ⟨rfl, rfl⟩))
  (fun os started H enc _ F => lifted os started H enc F)
theorem proved : Rows.MergeSaysUptoSaid :=
 over
end mergeSays
end Go.Proofs.Ytfbaogfcpldlnaa
