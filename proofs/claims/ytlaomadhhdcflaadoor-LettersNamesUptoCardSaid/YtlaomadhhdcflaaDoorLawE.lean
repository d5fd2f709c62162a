/-
  LettersNames: a name with a name behind it is one; so is one with digits behind it; nothing with a sign within is. Conditions: the row's own (bulk at most 1048576; utf8's two tables hold what their initialisers lay, which the card ties to the program's text).
-/
import Derived.Test.YtlaomadhhdcflaaDoorGd
import Derived.Test.YtlaomadhhdcflaaDoorEd
import Derived.Test.YtlaomadhhdcflaaDoorGa
import Derived.KernelRfl
import Derived.Deep.DeepHandedRow
import Derived.Lib.LaidTab
import Derived.Lib.LaidU8T
import Derived.Test.YtlaomadhhdcflaaDoorRows
import Derived.WalkKit
import Derived.ProofKit
import Derived.OpenShut
import Derived.JoinedCond
import Derived.Test.YtlaomadhhdcflaaDoorCards
import Derived.Test.YtlaomadhhdcflaaDoorTie
set_option linter.unusedVariables false
set_option linter.unusedSimpArgs false
/-
  Names: the program's and the reference's are alike.
-/
set_option linter.unusedVariables false
set_option linter.unusedSimpArgs false
open Go Go.Ev
namespace Go.Proofs.YtlaomadhhdcflaaDoor

def letter (c : Int) : Bool := (decide (97 ≤ c) && decide (c ≤ 122)) || ((decide (65 ≤ c) && decide (c ≤ 90)) || c == 95)
def digit (c : Int) : Bool := decide (48 ≤ c) && decide (c ≤ 57)
theorem letters_Letter_ok (c : Int) : letters_Letter c = some (letter c) := by
  apply letters_Letter_run
  simp only [letters_Letter_B, letter, cnd_ite, ge_iff_le]
  cases decide (97 ≤ c) <;> cases decide (c ≤ 122) <;> cases decide (65 ≤ c) <;> cases decide (c ≤ 90) <;> simp
theorem letters_Digit_ok (c : Int) : letters_Digit c = some (digit c) := by
  apply letters_Digit_run
  simp only [letters_Digit_B, digit, cnd_ite, ge_iff_le]
  cases decide (48 ≤ c) <;> simp
/-- All of these may stand behind a name's first sign. -/
def inName (c : UInt8) : Bool := letter c.toNat || digit c.toNat
def isName : Str → Bool
  | [] => false
  | c :: s => letter c.toNat && s.all inName
theorem letters_Name_ok (s : Str) (h : s.length < 4611686018427387904) : letters_Name s = some (isName s) := by
  apply letters_Name_run
  have key := tloop_list (b := letters_Name_l1T s) s (fun k (_ : Unit) => (k : Int)) (fun r _ => if r.all (fun c => inName c) then Sum.inl () else Sum.inr ()) (fun k _ => 1 ≤ k)
    (by
      intro a _
      simp [letters_Name_l1T])
    (by
      intro k x r a hk hx hd hI
      have e1 : (decide ((k : Int) < (List.length s : Int))) = true := by simp; omega
      have e2 : ((k : Int) == 0) = false := by simp; omega
      have e3 : IntKind.wrap .i64 ((k : Int) + 1) = ((k + 1 : Nat) : Int) := wadd (by omega)
      simp only [letters_Name_l1T, e1, cnd_t, nthI_nat, hx, bnd_s, letters_Letter_ok, letters_Digit_ok, e2, cnd_f, e3]
      cases h1 : letter x.toNat <;> cases h2 : digit x.toNat <;> simp [inName, h1, h2])
  unfold letters_Name_B
  cases s with
  | nil =>
    rw [tloop_exit (r := .inl ()) (by simp [letters_Name_l1T])]
    simp [isName]
  | cons c s =>
    have e1 : (decide ((0 : Int) < (List.length (c :: s) : Int))) = true := by simp
    cases h1 : letter c.toNat with
    | false =>
      rw [tloop_exit (r := .inr ()) (by
        have : nthI (c :: s) 0 = some c := rfl
        simp only [letters_Name_l1T, e1, cnd_t, this, bnd_s, letters_Letter_ok, h1]; rfl)]
      simp [isName, h1]
    | true =>
      rw [tloop_next (s' := ((1 : Nat) : Int)) (by
        have : nthI (c :: s) 0 = some c := rfl
        simp only [letters_Name_l1T, e1, cnd_t, this, bnd_s, letters_Letter_ok, h1]; rfl)]
      rw [key 1 () (by simp) (by omega)]
      simp only [List.drop_succ_cons, List.drop_zero, bnd_s, isName, h1, Bool.true_and]
      cases h2 : s.all inName <;> simp
end Go.Proofs.YtlaomadhhdcflaaDoor

/-
  LettersNames, of the typed functions.
-/
set_option linter.unusedVariables false
set_option linter.unusedSimpArgs false
open Go Go.Ev
namespace Go.Proofs.YtlaomadhhdcflaaDoor

theorem seinelaw1_awake_ok : seinelaw1_awake = some true := seinelaw1_awake_run 100 (by kernel_rfl)
theorem long3 {α : Type} {s : List α} : decide ((s.length : Int) > 3000) = true ∨ (decide ((s.length : Int) > 3000) = false ∧ s.length ≤ 3000) := by
  by_cases h : (s.length : Int) > 3000
  · left; simpa using h
  · right; exact ⟨by simpa using h, by omega⟩
theorem isName_append {s : Str} (t : Str) (h : isName s = true) : isName (s ++ t) = t.all inName := by
  cases s with
  | nil => simp [isName] at h
  | cons c r =>
    simp only [isName, Bool.and_eq_true] at h
    simp only [List.cons_append, isName, h.1, Bool.true_and, List.all_append, h.2]
theorem isName_all {s : Str} (h : isName s = true) : s.all inName = true := by
  cases s with
  | nil => simp [isName] at h
  | cons c r =>
    simp only [isName, Bool.and_eq_true] at h
    simp only [List.all_cons, Bool.and_eq_true]
    exact ⟨by simp [inName, h.1], h.2⟩
theorem byteC {c : Int} (h : gdI .u8 c) : ((UInt8.ofNat c.toNat).toNat : Int) = c := by
  have : 0 ≤ c ∧ c ≤ 255 := by simpa [gdI, Lit.wf, IntKind.min, IntKind.max, IntKind.signed, IntKind.bits] using h
  rw [u8_toNat (by omega)]; omega
theorem LettersNames_ok (s t : Str) (c : Int) (hc : gdI .u8 c) : seinelaw1_LettersNames s t c = some true := by
  apply seinelaw1_LettersNames_run
  unfold seinelaw1_LettersNames_B
  rw [seinelaw1_awake_ok]
  rcases long3 (s := s) with h | ⟨h, hl⟩
  · rw [h]; rfl
  rcases long3 (s := t) with h' | ⟨h', hl'⟩
  · rw [h, h']; rfl
  have n1 := letters_Name_ok s (by omega)
  have n2 := letters_Name_ok t (by omega)
  have t1 : tapp s t = some (s ++ t) := tapp_ok (by rw [lim_val]; omega)
  have t2 : tapp s ([48, 57] : Str) = some (s ++ [48, 57]) := tapp_ok (by rw [lim_val]; simp; omega)
  have t3 : tapp ([55] : Str) s = some (55 :: s) := tapp_ok (by rw [lim_val]; simp; omega)
  have t4 : tapp s (bytesT [c]) = some (s ++ bytesT [c]) := tapp_ok (by rw [lim_val]; simp [bytesT]; omega)
  have n3 := letters_Name_ok (s ++ t) (by rw [List.length_append]; omega)
  have n4 := letters_Name_ok (s ++ [48, 57]) (by rw [List.length_append]; simp; omega)
  have n5 := letters_Name_ok (55 :: s) (by simp; omega)
  have n6 := letters_Name_ok (s ++ bytesT [c]) (by rw [List.length_append]; simp [bytesT]; omega)
  have e5 : isName (55 :: s) = false := by simp [isName, letter]
  rw [e5] at n5
  rw [n1, n2, h, h']
  cases hs : isName s
  · simp only [cnd_f, bnd_s, t3, n5, Bool.not_false, cnd_t, cnd_same]
  · rw [isName_append _ hs] at n3 n4 n6
    have e4 : ([48, 57] : Str).all inName = true := by decide
    have e6 : (bytesT [c]).all inName = (letter c || digit c) := by
      simp only [bytesT, List.map_cons, List.map_nil, List.all_cons, List.all_nil, Bool.and_true, inName, byteC hc]
    rw [e4] at n4
    rw [e6] at n6
    have e3 : isName t = true → t.all inName = true := isName_all
    cases ht : isName t
    · simp only [cnd_f, cnd_t, bnd_s, t2, n4, t3, n5, t4, n6, Bool.not_true, ge_iff_le, letter, digit]
      cases decide (48 ≤ c) <;> cases decide (c ≤ 57) <;> cases decide (97 ≤ c) <;> cases decide (c ≤ 122) <;> cases decide (65 ≤ c) <;> cases decide (c ≤ 90) <;> cases c == 95 <;> rfl
    · rw [e3 ht] at n3
      simp only [cnd_f, cnd_t, bnd_s, t1, n3, t2, n4, t3, n5, t4, n6, Bool.not_true, ge_iff_le, letter, digit]
      cases decide (48 ≤ c) <;> cases decide (c ≤ 57) <;> cases decide (97 ≤ c) <;> cases decide (c ≤ 122) <;> cases decide (65 ≤ c) <;> cases decide (c ≤ 90) <;> cases c == 95 <;> rfl
end Go.Proofs.YtlaomadhhdcflaaDoor

/-
  What is asked of the program as a whole.
-/
set_option linter.unusedVariables false
open Go Go.Ev
open Go.ChangeShapes Go.WideShapes Go.ChangeAt Go.RowKit
namespace Go.Proofs.YtlaomadhhdcflaaDoor
theorem mixed : Tryd.prog.follows .mixedOrders = true := by kernel_rfl
theorem names : (Tryd.prog.funcs.toList.all fun fn => !fn.body.isSome || !(fn.name == "runtime.NumGoroutine")) = true := by kernel_rfl
theorem laid : laidOutB Tryd.prog = true := by kernel_rfl
theorem pok : POk Tryd.prog := by
  refine ⟨mixed, fun f fn hf hb => ?_⟩
  have hm : fn ∈ Tryd.prog.funcs.toList := by
    have := Array.mem_of_getElem? hf
    simpa using this
  have := List.all_eq_true.1 names fn hm
  rw [hb] at this
  simpa using this
theorem blOk {H : Type} : BlOk (H := H) Rows.uptoBulk Rows.uptoBulkAll := by
  refine ⟨fun l => ?_, fun s => ?_, ?_, fun es sp => ?_, fun ps => ?_, fun d r => ?_⟩
  · cases l <;> simp [Rows.uptoBulk]
  · simp [Rows.uptoBulk]
  · simp [Rows.uptoBulk]
  · simp only [Rows.uptoBulk]; omega
  · simp only [Rows.uptoBulk]; omega
  · simp [Rows.uptoBulkAll]
theorem own : ownKnob Tryd.prog.godebug = none := by kernel_rfl
theorem firstE : (Rows.laid_unicode_utf8_first : DataW Unit) = Go.Lib.firstData := by kernel_rfl
theorem acceptE : (Rows.laid_unicode_utf8_acceptRanges : DataW Unit) = Go.Lib.acceptData := by kernel_rfl
def laidList : List (String × DataW Unit) := Rows.lettersNamesUptoRow.laid
theorem tabsOf {W : World} (h : laidMetH Tryd.prog laidList W) : Go.Lib.Utf8Tabs 0 1 W := by
  have h3 := Go.Lib.laidMet.reads h (.tail _ (.head _))
  have h4 := Go.Lib.laidMet.reads h (.head _)
  rw [firstE] at h3
  rw [acceptE] at h4
  exact utf8Tabs_of_readsT (ρ := Tryd.lays260_ren) (U8Types.of260 Tryd.lays260) ⟨by kernel_rfl, by kernel_rfl, by kernel_rfl, by kernel_rfl, by kernel_rfl, by kernel_rfl, by kernel_rfl⟩ h3 h4
theorem gmOf {W : World} (h : laidMetH Tryd.prog laidList W) : ∀ b i v, GM b i = some v → memW W b i = some v := by
  obtain ⟨t1, t2⟩ := tabsOf h
  intro b i v hv
  unfold GM at hv
  split at hv
  · rename_i hb; subst hb
    split at hv
    · rename_i hi; cases hv; exact (cell_mem (t1 i hi)).2
    · simp at hv
  · split at hv
    · rename_i hb; subst hb
      split at hv
      · rename_i hi
        cases hv
        obtain ⟨e1, e2⟩ := t2 (i / 2) (by omega)
        split
        · rename_i he
          rw [show 2 * (i / 2) = i by omega] at e1
          exact (cell_mem e1).2
        · rename_i he
          rw [show 2 * (i / 2) + 1 = i by omega] at e2
          exact (cell_mem e2).2
      · simp at hv
    · simp at hv
/-- A world for the witness: the two tables hold what their initialisers lay. -/
noncomputable def laidWorld (os : Os) : World :=
  let w0 := World.holding Tryd.prog os ⟨#[], #[], []⟩
  let put (h : Array Obj) (g : Nat) (cs : Array Value) : Array Obj := h.modify g fun
    | .cells _ t frozen => .cells cs t frozen
    | o => o
  let h1 := put w0.heap 0 (Go.Lib.firstTab.map fun z => Value.int .u8 z).toArray
  let h2 := put h1 1 ((List.range 16).flatMap fun i => [Value.int .u8 (Go.Lib.accLo i), Value.int .u8 (Go.Lib.accHi i)]).toArray
  { w0 with heap := h2 }
end Go.Proofs.YtlaomadhhdcflaaDoor

/-
  LettersNames: a name with a name behind it is one; so is one with digits behind it; nothing with a sign within is. Conditions: the row's own (bulk at most 1048576; utf8's two tables hold what their initialisers lay, which the card ties to the program's text).
-/
set_option linter.unusedVariables false
open Go Go.Ev
open Go.ChangeShapes Go.WideShapes Go.ChangeAt Go.RowKit
namespace Go.Proofs.YtlaomadhhdcflaaDoor
namespace lettersNames
def fs : Ty := (.fcons .str (.fcons .str (.fcons (.int .u8) .fnil)))
theorem lawF : ∀ x : fs.den RS, good RS fs x → bulkL RS fs x ≤ 1048576 → OL Tryd.prog MT XT 4 (encL RS fs x) [] = some (.bool true, []) := by
  rintro ⟨x0, x1, x2, _⟩ g b
  have b' : bkStr x0 + (bkStr x1 + (bk1 x2 + (0))) ≤ 1048576 := b
  obtain ⟨g0, g1, g2, _⟩ := g
  have g0' : gd1 x0 := g0
  have g1' : gd1 x1 := g1
  have g2' : (gdI .u8) x2 := g2
  have e : encL RS fs (x0, x1, x2, ()) = [PV.str x0, PV.str x1, (PV.int .u8) x2] := rfl
  rw [e]
  change O 4 _ _ = _
  have h := seinelaw1_LettersNames_spec (LettersNames_ok x0 x1 x2 g2')
  simpa only [tys, seinelaw1_LettersNamesE] using h
set_option maxRecDepth 100000 in
theorem contract (H : Type) (enc : TypeId × Value → H) (W : World) (base : Nat) (args : Array Value) (ds gs : List (DataW H)) (before : List MemPlace)
    (hval : ∀ (j : Nat) t v, Tryd.f4.params[j]? = some t → args[j]? = some v → Value.okWide Tryd.prog W .any base t v)
    (hW : DataW.Whole enc Tryd.prog Tryd.f4.params.toList Rows.lettersNamesSpec.vars false W args.toList ds gs before) (hk : Rows.uptoSmall H (ds ++ gs) = true) (hL : laidMetH Tryd.prog laidList W) :
    Calls Tryd.prog 4 args W fun e W' => ∃ v, e = .returned v ∧ Rows.lettersNamesSpec.post enc Tryd.prog Tryd.f4 false true false false W args v W' := by
  have hg : gs = [] := by
    obtain ⟨p, q, hA, hV, _⟩ := hW
    exact (trodVars_none hV).1
  have hb : Rows.uptoBulkAll ds ≤ 1048576 := by
    have := of_decide_eq_true hk
    simpa [hg] using this
  have hlen : ds.length = 3 := by
    obtain ⟨p, q, hA0, hV, _⟩ := hW
    have hA : DataW.TrodAll enc Tryd.prog W 0 (fun _ => true) true Tryd.f4.params.toList args.toList ds p := hA0
    rw [Tryd.params4] at hA
    obtain ⟨v0, vs0, d0, ds0, p0, q0, h0, rfl, rfl, ht0, r0⟩ := trodAll_cons hA
    obtain ⟨v1, vs1, d1, ds1, p1, q1, h1, rfl, rfl, ht1, r1⟩ := trodAll_cons r0
    obtain ⟨v2, vs2, d2, ds2, p2, q2, h2, rfl, rfl, ht2, r2⟩ := trodAll_cons r1
    obtain ⟨rfl, rfl, rfl⟩ := trodAll_nil r2
    rfl
  refine contract_glob (G := GM) pok xok laid blOk Tryd.func4 rfl (n := 9) (ρ := RS) (τ := TS) (fs := fs) (tb := 4) (by kernel_rfl) (by rw [show Tryd.f4.resultTypes = #[4] from rfl]) Tryd.underlying4 rfl (gmOf hL) (rok enc W blOk) ?_ hval hW hb lawF
  subst hg
  match ds, hlen with
  | [d0, d1, d2], _ => exact ⟨rfl, rfl, rfl⟩
theorem laid_met (os : Os) : laidMet Tryd.prog Rows.lettersNamesUptoRow.laid ((laidWorld os).forCall (fun _ _ => 0) ⟨#[], #[.string ⟨#[]⟩, .string ⟨#[]⟩, .int .u8 0], []⟩).memory :=
  laidMet_of_run' 8 (by kernel_rfl) (by kernel_rfl)
theorem reads (os : Os) {H : Type} (enc : TypeId × Value → H) : ∃ places, DataW.whole enc Tryd.prog ((laidWorld os).forCall (fun _ _ => 0) ⟨#[], #[.string ⟨#[]⟩, .string ⟨#[]⟩, .int .u8 0], []⟩).memory Tryd.f4.params.toList Rows.lettersNamesSpec.vars false (#[.string ⟨#[]⟩, .string ⟨#[]⟩, .int .u8 0] : Array Value).toList 8 = some ([.lit (.string []), .lit (.string []), .lit (.int .u8 0)], [], places) :=
  ⟨[], by kernel_rfl⟩
set_option maxRecDepth 100000 in
theorem lifted (os : Os) (started : os.Started) (H : Type) (enc : TypeId × Value → H) (F : Stop.Interp) :
    ReturnsInHanded {} Tryd.checked os 4 .any ((Rows.OpenSpec.upto Rows.lettersNamesSpec).preRow enc Tryd.prog Tryd.f4 Rows.lettersNamesUptoRow.domain false Rows.lettersNamesUptoRow.laid) (((Rows.OpenSpec.upto Rows.lettersNamesSpec).at F).post enc Tryd.prog Tryd.f4 false true false false) := by
  obtain ⟨places, hx⟩ := reads os enc
  refine returnsInHanded_of_row (C := Tryd.checked) (s := Rows.OpenSpec.upto Rows.lettersNamesSpec) own started (by kernel_rfl) Tryd.func4
    (witness_row_at (enc := enc) (C := Tryd.checked) false (laidWorld os) #[.string ⟨#[]⟩, .string ⟨#[]⟩, .int .u8 0] rfl (by kernel_rfl) (by kernel_rfl) (by kernel_rfl)
      (OpenSpec.preRow_of_cond 8 hx (by kernel_rfl) (fun k hk => by cases hk; kernel_rfl) (by kernel_rfl) (laid_met os))) ?_
  intro W base args ds gs before hval hW _ hcond _ hL _ _
  exact contract H enc W base args ds gs before hval hW (hcond _ rfl) hL
theorem over : Rows.lettersNamesUptoRow.holds Tryd.pinned (Rows.OpenSpec.upto Rows.lettersNamesSpec) :=
  OpenClaim.holds_of_cond 4 Tryd.f4 rfl rfl rfl rfl rfl rfl rfl ⟨rfl, rfl, rfl, rfl, rfl⟩ rfl rfl rfl rfl rfl (by kernel_rfl) Tryd.func4 (by kernel_rfl)
    (of_decide_eq_true (by kernel_rfl)) (by unfold Func.isWrapper; first | (rw [if_pos (by decide +kernel)]; kernel_rfl) | (rw [if_neg (by decide +kernel)]; exact ⟨rfl, rfl⟩))
    (fun os started H enc _ F => by rw [OpenClaim.pre_eq_preRow]; exact lifted os started H enc F)
/-- No parameter wants a stand-in; the program's own looks are off. -/
theorem plain (f : FuncId) (fn : Func) (hf : Tryd.pinned.checked.prog.funcNamed Rows.lettersNamesUptoRow.func = some f) (hfn : Tryd.pinned.checked.prog.funcs[f]? = some fn) :
    false = Tryd.pinned.checked.prog.looks [] ∧ ∀ (j : Nat) t, fn.params[j]? = some t → Tryd.pinned.checked.prog.wantsStandIn t = false := by
  obtain rfl : f = 4 := Option.some.inj ((show Tryd.prog.funcNamed Rows.lettersNamesUptoRow.func = some 4 by kernel_rfl).symm.trans hf) |>.symm
  obtain rfl : fn = Tryd.f4 := (Option.some.inj (Tryd.func4.symm.trans hfn)).symm
  refine ⟨by kernel_rfl, fun j t ht => ?_⟩
  have all : (Tryd.f4.params.toList.all fun t => !Tryd.prog.wantsStandIn t) = true := by kernel_rfl
  have hm : t ∈ Tryd.f4.params.toList := by
    have := Array.mem_of_getElem? ht
    simpa using this
  have := List.all_eq_true.1 all t hm
  exact (show Tryd.prog.wantsStandIn t = false by simpa using this)
theorem proved : Rows.LettersNamesUptoCardSaid :=
  Claim7.holds_tied_plain_at .later [] _ _ _ _ over (fun _ h => by cases h) (by kernel_rfl) (fun _ h => by cases h) lettersNamesUpto_row_tie rfl ⟨rfl, rfl⟩ (by kernel_rfl) rfl plain (by kernel_rfl)
end lettersNames
end Go.Proofs.YtlaomadhhdcflaaDoor
