import Derived.Test.YtfbaogfcpldlnaaWe
import Derived.Test.YtfbaogfcpldlnaaGa
import Derived.Test.YtfbaogfcpldlnaaRows
import Derived.WalkKit
import Derived.ProofKit
import Derived.OpenShut
import Derived.JoinedCond
import Derived.Test.YtfbaogfcpldlnaaEd
set_option linter.unusedVariables false
set_option linter.unusedSimpArgs false
open Go Go.Ev
open Go.ChangeShapes Go.WideShapes Go.ChangeAt Go.RowKit
namespace Go.Proofs.Ytfbaogfcpldlnaa
namespace mergeAlike
def fs : Ty := (.fcons (.sl (.ext 2)) (.fcons (.sl (.ext 2)) (.fcons (.int .i64) .fnil)))
theorem lawF : ∀ x : fs.den RS, good RS fs x → bulkL RS fs x ≤ 1048576 → OL Try.prog MT XT 10 (encL RS fs x) [] = some (.bool true, []) := by
 rintro ⟨x0, x1, x2, _⟩ g b
 have b' : (bkSl bkMember) x0 + ((bkSl bkMember) x1 + (bk1 x2 + (0))) ≤ 1048576 := b
 obtain ⟨g0, g1, g2, _⟩ := g
 have g0' : (gdSl gdMember) x0 := g0
 have g1' : (gdSl gdMember) x1 := g1
 have g2' : (gdI .i64) x2 := g2
 have e : encL RS fs (x0, x1, x2, ()) = [.slice (List.map encMember x0) [] false, .slice (List.map encMember x1) [] false, (PV.int .i64) x2] := rfl
 rw [e]
 change O 10 _ _ = _
 have h := seinelaw19_MergeAlike_spec (seinelaw19_MergeAlike_ok x0 x1 x2 (by omega) (by omega))
 simpa only [tys, seinelaw19_MergeAlikeE] using h
set_option maxRecDepth 100000 in
theorem contract (H : Type) (enc : TypeId × Value → H) (W : World) (base : Nat) (args : Array Value) (ds gs : List (DataW H)) (before : List MemPlace)
  (hval : ∀ (j : Nat) t v, Try.f10.params[j]? = some t → args[j]? = some v → Value.okWide Try.prog W .any base t v)
  (hW : DataW.Whole enc Try.prog Try.f10.params.toList Rows.mergeAlikeSpec.vars false W args.toList ds gs before) (hk : Rows.uptoSmall H (ds ++ gs) = true) :
  Calls Try.prog 10 args W fun e W' => ∃ v, e = .returned v ∧ Rows.mergeAlikeSpec.post enc Try.prog Try.f10 false true false false W args v W' := by
 have hg : gs = [] := by
  obtain ⟨p, q, hA, hV, _⟩ := hW
  exact (trodVars_none hV).1
 have hb : Rows.uptoBulkAll ds ≤ 1048576 := by
  have := of_decide_eq_true hk
  simpa [hg] using this
 have hlen : ds.length = 3 := by
  obtain ⟨p, q, hA0, hV, _⟩ := hW
  have hA : DataW.TrodAll enc Try.prog W 0 (fun _ => true) true Try.f10.params.toList args.toList ds p := hA0
  rw [Try.params10] at hA
  obtain ⟨v0, vs0, d0, ds0, p0, q0, h0, rfl, rfl, ht0, r0⟩ := trodAll_cons hA
  obtain ⟨v1, vs1, d1, ds1, p1, q1, h1, rfl, rfl, ht1, r1⟩ := trodAll_cons r0
  obtain ⟨v2, vs2, d2, ds2, p2, q2, h2, rfl, rfl, ht2, r2⟩ := trodAll_cons r1
  obtain ⟨rfl, rfl, rfl⟩ := trodAll_nil r2
  rfl
 refine contract_true pok xok laid blOk Try.func10 rfl (n := 9) (ρ := RS) (τ := TS) (fs := fs) (tb := 4) (by kernel_rfl) (by rw [show Try.f10.resultTypes = #[4] from rfl]) Try.underlying4 rfl (rok enc W blOk) ?_ hval hW hb lawF
 subst hg
 match ds, hlen with
 | [d0, d1, d2], _ => exact ⟨rfl, rfl, rfl⟩
set_option maxRecDepth 100000 in
theorem lifted (os : Os) (started : os.Started) (H : Type) (enc : TypeId × Value → H) (F : Stop.Interp) :
  ReturnsInHanded {} Try.checked os 10 .any ((Rows.OpenSpec.upto Rows.mergeAlikeSpec).pre6 enc Try.prog Try.f10 Rows.mergeAlikeUptoRow.domain false) (((Rows.OpenSpec.upto Rows.mergeAlikeSpec).at F).post enc Try.prog Try.f10 false true false false) := by
 refine returnsInHanded_of_cond (C := Try.checked) (s := Rows.OpenSpec.upto Rows.mergeAlikeSpec) (k := Rows.uptoSmall) rfl own started (by kernel_rfl) Try.func10
  (OpenSpec.witness (enc := enc) (C := Try.checked) (s := Rows.OpenSpec.upto Rows.mergeAlikeSpec) (k := Rows.uptoSmall) rfl false ⟨#[], #[.slice none 0 0, .slice none 0 0, .int .i64 0], []⟩ 8 (by kernel_rfl) (by kernel_rfl) (by kernel_rfl)
   (x := ([.nil, .nil, .lit (.int .i64 0)], [], [])) (by kernel_rfl) rfl (by kernel_rfl)) ?_
 intro W base args ds gs before hval hW _ hk _
 exact contract H enc W base args ds gs before hval hW hk
theorem over : Rows.mergeAlikeUptoRow.holds Try.pinned (Rows.OpenSpec.upto Rows.mergeAlikeSpec) :=
 OpenClaim.holds_of_cond 10 Try.f10 rfl rfl rfl rfl rfl rfl rfl ⟨rfl, rfl, rfl, rfl, rfl⟩ rfl rfl rfl rfl rfl (by kernel_rfl) Try.func10 (by kernel_rfl)
  (of_decide_eq_true (by kernel_rfl)) (by unfold Func.isWrapper; first | (rw [if_pos (by decide +kernel)]; kernel_rfl) | (rw [if_neg (by decide +kernel)]; exact ⟨rfl, rfl⟩))
  (fun os started H enc _ F => lifted os started H enc F)
theorem proved : Rows.MergeAlikeUptoSaid :=
 over
end mergeAlike
end Go.Proofs.Ytfbaogfcpldlnaa
