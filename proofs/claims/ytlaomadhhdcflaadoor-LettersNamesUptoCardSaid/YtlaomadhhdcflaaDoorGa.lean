import Derived.Test.YtlaomadhhdcflaaDoorEd
import Derived.Test.YtlaomadhhdcflaaDoorProg
import Derived.KernelRfl
set_option linter.unusedVariables false
set_option linter.unusedSimpArgs false
/- Printed by symgen.py: what the functions of this seat compute, as typed functions, and why. -/
set_option linter.unusedVariables false
set_option linter.unusedSimpArgs false
open Go Go.Ev Go.Ev.PV
namespace Go.Proofs.YtlaomadhhdcflaaDoor
structure GRuntimeBoundsError where
  x : Int
  y : Int
  signed : Bool
  code : Int

def shRuntimeBoundsError : Sh := .agg [(.int .i64), (.int .i64), .bool, (.int .u8)]
def encRuntimeBoundsError (x : GRuntimeBoundsError) : PV := .agg [.int .i64 x.x, .int .i64 x.y, .bool x.signed, .int .u8 x.code]
theorem encRuntimeBoundsError_eq (x : GRuntimeBoundsError) : encRuntimeBoundsError x = .agg [.int .i64 x.x, .int .i64 x.y, .bool x.signed, .int .u8 x.code] := rfl
theorem chk_GRuntimeBoundsError (x : GRuntimeBoundsError) : chk shRuntimeBoundsError (encRuntimeBoundsError x) = true := by rw [encRuntimeBoundsError_eq]; rfl
theorem inj_GRuntimeBoundsError (a b : GRuntimeBoundsError) (h : encRuntimeBoundsError a = encRuntimeBoundsError b) : a = b := by
  simp only [encRuntimeBoundsError_eq, PV.agg.injEq, List.cons.injEq, PV.slice.injEq, PV.str.injEq, PV.int.injEq, PV.bool.injEq, true_and, and_true] at h
  obtain ⟨a0, a1, a2, a3⟩ := a
  obtain ⟨b0, b1, b2, b3⟩ := b
  dsimp only at h
  have e0 := h.1
  have e1 := h.2.1
  have e2 := h.2.2.1
  have e3 := h.2.2.2
  subst e0 e1 e2 e3
  rfl
theorem tys : (∀ x : GRuntimeBoundsError, encRuntimeBoundsError x = .agg [.int .i64 x.x, .int .i64 x.y, .bool x.signed, .int .u8 x.code]) := encRuntimeBoundsError_eq
theorem chks : (∀ x, chk shRuntimeBoundsError (encRuntimeBoundsError x) = true) := chk_GRuntimeBoundsError
end Go.Proofs.YtlaomadhhdcflaaDoor

/- Printed by symgen.py: the functions, seen from outside. -/
set_option linter.unusedVariables false
set_option linter.unusedSimpArgs false
open Go Go.Ev Go.Ev.PV
namespace Go.Proofs.YtlaomadhhdcflaaDoor
def MTL : List (Nat × Hints) := [(4, { takes := [], gens := [], keeps := [], own := false, drop := true }),
  (5, { takes := [], gens := [], keeps := [], own := false, drop := true }),
  (10, { takes := [], gens := [], keeps := [(2, [0, 2, 5, 6])], own := false, drop := true }),
  (7, { takes := [69, 72], gens := [], keeps := [(3, [0, 2, 3, 4, 5])], own := false, drop := true }),
  (11, { takes := [], gens := [], keeps := [], own := false, drop := true }),
  (15, { takes := [], gens := [], keeps := [], own := false, drop := true }),
  (16, { takes := [], gens := [], keeps := [], own := false, drop := true }),
  (12, { takes := [8, 13, 15], gens := [], keeps := [], own := true, drop := true }),
  (17, { takes := [], gens := [], keeps := [], own := false, drop := true }),
  (18, { takes := [8, 14, 34, 57], gens := [], keeps := [], own := true, drop := true })]
def MT (f : FuncId) : Hints := match Go.Ev.look MTL f with | some m => m | none => {}
def XT : Ext := fun f => Go.Ev.look [(17, xDecode)] f
noncomputable def O : Orc := OL Tryd.prog MT XT
def seinelaw1_LettersNamesE : Bool → PV := fun r => PV.bool r
theorem seinelaw1_LettersNamesEj (a b : Bool) (h : seinelaw1_LettersNamesE a = seinelaw1_LettersNamesE b) : a = b := Ev.bool_inj a b h
noncomputable def seinelaw1_LettersNames (s : Str) (t : Str) (c : Int) : Option Bool := tO O 4 [(.str s), (.str t), (.int .u8 c)] [] fun r => (seinelaw1_LettersNamesE r, [])
theorem seinelaw1_LettersNames_spec {s : Str} {t : Str} {c : Int} {r : Bool} (h : seinelaw1_LettersNames s t c = some r) : O 4 [(.str s), (.str t), (.int .u8 c)] [] = some (seinelaw1_LettersNamesE r, []) := tO_spec (enc := fun r => (seinelaw1_LettersNamesE r, [])) h
def seinelaw1_awakeE : Bool → PV := fun r => PV.bool r
theorem seinelaw1_awakeEj (a b : Bool) (h : seinelaw1_awakeE a = seinelaw1_awakeE b) : a = b := Ev.bool_inj a b h
noncomputable def seinelaw1_awake : Option Bool := tO O 5 [] [] fun r => (seinelaw1_awakeE r, [])
theorem seinelaw1_awake_spec {r : Bool} (h : seinelaw1_awake = some r) : O 5 [] [] = some (seinelaw1_awakeE r, []) := tO_spec (enc := fun r => (seinelaw1_awakeE r, [])) h
def letters_NameE : Bool → PV := fun r => PV.bool r
theorem letters_NameEj (a b : Bool) (h : letters_NameE a = letters_NameE b) : a = b := Ev.bool_inj a b h
noncomputable def letters_Name (s : Str) : Option Bool := tO O 10 [(.str s)] [] fun r => (letters_NameE r, [])
theorem letters_Name_spec {s : Str} {r : Bool} (h : letters_Name s = some r) : O 10 [(.str s)] [] = some (letters_NameE r, []) := tO_spec (enc := fun r => (letters_NameE r, [])) h
def letters_LetterE : Bool → PV := fun r => PV.bool r
theorem letters_LetterEj (a b : Bool) (h : letters_LetterE a = letters_LetterE b) : a = b := Ev.bool_inj a b h
noncomputable def letters_Letter (c : Int) : Option Bool := tO O 15 [(.int .u8 c)] [] fun r => (letters_LetterE r, [])
theorem letters_Letter_spec {c : Int} {r : Bool} (h : letters_Letter c = some r) : O 15 [(.int .u8 c)] [] = some (letters_LetterE r, []) := tO_spec (enc := fun r => (letters_LetterE r, [])) h
def letters_DigitE : Bool → PV := fun r => PV.bool r
theorem letters_DigitEj (a b : Bool) (h : letters_DigitE a = letters_DigitE b) : a = b := Ev.bool_inj a b h
noncomputable def letters_Digit (c : Int) : Option Bool := tO O 16 [(.int .u8 c)] [] fun r => (letters_DigitE r, [])
theorem letters_Digit_spec {c : Int} {r : Bool} (h : letters_Digit c = some r) : O 16 [(.int .u8 c)] [] = some (letters_DigitE r, []) := tO_spec (enc := fun r => (letters_DigitE r, [])) h
end Go.Proofs.YtlaomadhhdcflaaDoor

/- Printed by frames.py: the types' readings. -/
set_option linter.unusedVariables false
set_option linter.unusedSimpArgs false
open Go Go.Ev Go.Ev.PV
namespace Go.Proofs.YtlaomadhhdcflaaDoor
def bkRuntimeBoundsError (x : GRuntimeBoundsError) : Nat := (bk1 x.x + (bk1 x.y + (bk1 x.signed + (bk1 x.code + (0))))) + 1
def gdRuntimeBoundsError (x : GRuntimeBoundsError) : Prop := (gdI .i64) x.x ∧ ((gdI .i64) x.y ∧ (gd1 x.signed ∧ ((gdI .u8) x.code ∧ (True))))
theorem bkRuntimeBoundsError_eq (x : GRuntimeBoundsError) : bkRuntimeBoundsError x = (bk1 x.x + (bk1 x.y + (bk1 x.signed + (bk1 x.code + (0))))) + 1 := rfl
theorem gdRuntimeBoundsError_eq (x : GRuntimeBoundsError) : gdRuntimeBoundsError x = ((gdI .i64) x.x ∧ ((gdI .i64) x.y ∧ (gd1 x.signed ∧ ((gdI .u8) x.code ∧ (True))))) := rfl
def TS : Nat → TypeId
  | _ => 8
def BS : Nat → Ty
  | _ => (.fcons (.int .i64) (.fcons (.int .i64) (.fcons .bool (.fcons (.int .u8) .fnil))))
abbrev recRuntimeBoundsError : RecTy := ⟨GRuntimeBoundsError, encRuntimeBoundsError, 4, bkRuntimeBoundsError, gdRuntimeBoundsError, fun x => wf_agg _ (encRuntimeBoundsError_eq x) rfl rfl⟩
abbrev RS : REnv
  | _ => recRuntimeBoundsError
theorem hty : ∀ i, ∃ F, Tryd.prog.underlying (TS i) = some (.struct F) ∧ Tryd.prog.cellsOf (TS i) = (BS i).size RS ∧ flds RS Tryd.prog (tyOk RS TS Tryd.prog 9) F.toList 0 (BS i) = true
  | _ => ⟨_, Tryd.underlying8, by kernel_rfl, by kernel_rfl⟩
theorem cvRuntimeBoundsError (x0 : Int) (x1 : Int) (x2 : Bool) (x3 : Int) : encRuntimeBoundsError ⟨x0, x1, x2, x3⟩ = (PV.agg (((PV.int .i64) x0).cells ++ (PV.agg (((PV.int .i64) x1).cells ++ (PV.agg ((PV.bool x2).cells ++ (PV.agg (((PV.int .u8) x3).cells ++ (PV.agg []).cells)).cells)).cells)).cells)) := by
  simp only [tys, cells, List.cons_append, List.nil_append]
theorem hcv : ∀ i (x : (BS i).den RS), ∃ y : (RS i).D, (RS i).en y = enc RS (BS i) x ∧ (RS i).bk y ≤ bulk RS (BS i) x + 1 ∧ (good RS (BS i) x → (RS i).gd y)
  | _, ⟨x0, x1, x2, x3, _⟩ => ⟨(⟨x0, x1, x2, x3⟩ : GRuntimeBoundsError), (cvRuntimeBoundsError x0 x1 x2 x3).trans rfl, Nat.le_of_eq ((bkRuntimeBoundsError_eq _).trans rfl), fun h => (gdRuntimeBoundsError_eq _).mpr h⟩
theorem rok {H : Type} (e : TypeId × Value → H) (W : World) {bl : DataW H → Nat} {bla : List (DataW H) → Nat} (hb : BlOk bl bla) : ROk RS TS e Tryd.prog W bl where
  op := open_ext hb 9 BS hty hcv
  ag := fun i => match i with
    | _ => fun x => ⟨_, encRuntimeBoundsError_eq x⟩
  st := fun i => (hty i).imp fun F h => h.1
end Go.Proofs.YtlaomadhhdcflaaDoor
