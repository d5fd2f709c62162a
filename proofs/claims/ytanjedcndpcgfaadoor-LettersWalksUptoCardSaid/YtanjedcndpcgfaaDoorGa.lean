import Derived.Test.YtanjedcndpcgfaaDoorEd
import Derived.Test.YtanjedcndpcgfaaDoorProg
import Derived.KernelRfl
set_option linter.unusedVariables false
set_option linter.unusedSimpArgs false
/- Printed by symgen.py: what the functions of this seat compute, as typed functions, and why. -/
set_option linter.unusedVariables false
set_option linter.unusedSimpArgs false
open Go Go.Ev Go.Ev.PV
namespace Go.Proofs.YtanjedcndpcgfaaDoor
structure GRuntimeBoundsError where
  x : Int
  y : Int
  signed : Bool
  code : Int

def shRuntimeBoundsError : Sh := .agg [(.int .i64), (.int .i64), .bool, (.int .u8)]
def encRuntimeBoundsError (x : GRuntimeBoundsError) : PV := .agg [.int .i64 x.x, .int .i64 x.y, .bool x.signed, .int .u8 x.code]
theorem encRuntimeBoundsError_eq (x : GRuntimeBoundsError) : encRuntimeBoundsError x = .agg [.int .i64 x.x, .int .i64 x.y, .bool x.signed, .int .u8 x.code] := rfl
theorem chk_GRuntimeBoundsError (x : GRuntimeBoundsError) : chk shRuntimeBoundsError (encRuntimeBoundsError x) = true := by rw [encRuntimeBoundsError_eq]; rfl
theorem inj_GRuntimeBoundsError (a b : GRuntimeBoundsError) (h : encRuntimeBoundsError a = encRuntimeBoundsError b) : a = b := by
  simp only [encRuntimeBoundsError_eq, PV.agg.injEq, List.cons.injEq, PV.slice.injEq, PV.str.injEq, PV.int.injEq, PV.bool.injEq, true_and, and_true] at h
  obtain ⟨a0, a1, a2, a3⟩ := a
  obtain ⟨b0, b1, b2, b3⟩ := b
  dsimp only at h
  have e0 := h.1
  have e1 := h.2.1
  have e2 := h.2.2.1
  have e3 := h.2.2.2
  subst e0 e1 e2 e3
  rfl
theorem tys : (∀ x : GRuntimeBoundsError, encRuntimeBoundsError x = .agg [.int .i64 x.x, .int .i64 x.y, .bool x.signed, .int .u8 x.code]) := encRuntimeBoundsError_eq
theorem chks : (∀ x, chk shRuntimeBoundsError (encRuntimeBoundsError x) = true) := chk_GRuntimeBoundsError
end Go.Proofs.YtanjedcndpcgfaaDoor

/- Printed by symgen.py: the functions, seen from outside. -/
set_option linter.unusedVariables false
set_option linter.unusedSimpArgs false
open Go Go.Ev Go.Ev.PV
namespace Go.Proofs.YtanjedcndpcgfaaDoor
def MTL : List (Nat × Hints) := [(5, { takes := [], gens := [], keeps := [(4, [0, 2, 3])], own := false, drop := true }),
  (6, { takes := [], gens := [], keeps := [], own := false, drop := true }),
  (7, { takes := [], gens := [], keeps := [], own := false, drop := true }),
  (8, { takes := [], gens := [], keeps := [], own := false, drop := true }),
  (9, { takes := [], gens := [], keeps := [], own := false, drop := true }),
  (15, { takes := [], gens := [], keeps := [], own := false, drop := true }),
  (16, { takes := [], gens := [], keeps := [], own := false, drop := true }),
  (17, { takes := [], gens := [], keeps := [(2, [0, 2, 3])], own := false, drop := true }),
  (18, { takes := [18, 28], gens := [], keeps := [(3, [0, 2, 3, 4, 5])], own := false, drop := true }),
  (11, { takes := [69, 72], gens := [], keeps := [(3, [0, 2, 3, 4, 5])], own := false, drop := true }),
  (19, { takes := [], gens := [], keeps := [(4, [0, 1, 4, 5])], own := false, drop := true }),
  (20, { takes := [], gens := [], keeps := [(17, [0, 1, 4, 5, 6, 7, 8, 9])], own := false, drop := true }),
  (21, { takes := [26, 33], gens := [], keeps := [(6, [4, 6, 7])], own := false, drop := true }),
  (22, { takes := [], gens := [], keeps := [], own := false, drop := true }),
  (23, { takes := [], gens := [], keeps := [(3, [2, 3, 4, 5])], own := false, drop := true }),
  (14, { takes := [], gens := [], keeps := [(2, [0, 2, 5, 6])], own := false, drop := true }),
  (24, { takes := [], gens := [], keeps := [(4, [0, 2, 3])], own := false, drop := true }),
  (29, { takes := [], gens := [], keeps := [], own := false, drop := true }),
  (30, { takes := [], gens := [], keeps := [(1, [0, 2]), (9, [0])], own := false, drop := true }),
  (31, { takes := [], gens := [], keeps := [], own := false, drop := true }),
  (25, { takes := [8, 13, 15], gens := [], keeps := [], own := true, drop := true }),
  (32, { takes := [20], gens := [], keeps := [(3, [0, 2, 3, 4, 5])], own := false, drop := true }),
  (27, { takes := [], gens := [], keeps := [], own := false, drop := true }),
  (28, { takes := [], gens := [], keeps := [], own := false, drop := true }),
  (33, { takes := [], gens := [], keeps := [], own := false, drop := true }),
  (34, { takes := [], gens := [], keeps := [], own := false, drop := true }),
  (35, { takes := [8, 14, 34, 57], gens := [], keeps := [], own := true, drop := true })]
def MT (f : FuncId) : Hints := match Go.Ev.look MTL f with | some m => m | none => {}
def XT : Ext := fun f => Go.Ev.look [(29, xDecode), (30, xValid)] f
noncomputable def O : Orc := OL Tryd.prog MT XT
def seinelaw1_LettersWalksE : Bool → PV := fun r => PV.bool r
theorem seinelaw1_LettersWalksEj (a b : Bool) (h : seinelaw1_LettersWalksE a = seinelaw1_LettersWalksE b) : a = b := Ev.bool_inj a b h
noncomputable def seinelaw1_LettersWalks (s : Str) : Option Bool := tO O 5 [(.str s)] [] fun r => (seinelaw1_LettersWalksE r, [])
theorem seinelaw1_LettersWalks_spec {s : Str} {r : Bool} (h : seinelaw1_LettersWalks s = some r) : O 5 [(.str s)] [] = some (seinelaw1_LettersWalksE r, []) := tO_spec (enc := fun r => (seinelaw1_LettersWalksE r, [])) h
def seinelaw1_LettersSourceE : Bool → PV := fun r => PV.bool r
theorem seinelaw1_LettersSourceEj (a b : Bool) (h : seinelaw1_LettersSourceE a = seinelaw1_LettersSourceE b) : a = b := Ev.bool_inj a b h
noncomputable def seinelaw1_LettersSource (s : Str) (t : Str) : Option Bool := tO O 6 [(.str s), (.str t)] [] fun r => (seinelaw1_LettersSourceE r, [])
theorem seinelaw1_LettersSource_spec {s : Str} {t : Str} {r : Bool} (h : seinelaw1_LettersSource s t = some r) : O 6 [(.str s), (.str t)] [] = some (seinelaw1_LettersSourceE r, []) := tO_spec (enc := fun r => (seinelaw1_LettersSourceE r, [])) h
def seinelaw1_LettersBackE : Bool → PV := fun r => PV.bool r
theorem seinelaw1_LettersBackEj (a b : Bool) (h : seinelaw1_LettersBackE a = seinelaw1_LettersBackE b) : a = b := Ev.bool_inj a b h
noncomputable def seinelaw1_LettersBack (s : Str) (l0 : List Int) : Option Bool := tO O 7 [(.str s), (.slice (List.map (PV.int .i64) l0) [] false)] [] fun r => (seinelaw1_LettersBackE r, [])
theorem seinelaw1_LettersBack_spec {s : Str} {l0 : List Int} {r : Bool} (h : seinelaw1_LettersBack s l0 = some r) : O 7 [(.str s), (.slice (List.map (PV.int .i64) l0) [] false)] [] = some (seinelaw1_LettersBackE r, []) := tO_spec (enc := fun r => (seinelaw1_LettersBackE r, [])) h
def seinelaw1_LettersSaysE : Bool → PV := fun r => PV.bool r
theorem seinelaw1_LettersSaysEj (a b : Bool) (h : seinelaw1_LettersSaysE a = seinelaw1_LettersSaysE b) : a = b := Ev.bool_inj a b h
noncomputable def seinelaw1_LettersSays (s : Str) (i : Int) : Option Bool := tO O 8 [(.str s), (.int .i64 i)] [] fun r => (seinelaw1_LettersSaysE r, [])
theorem seinelaw1_LettersSays_spec {s : Str} {i : Int} {r : Bool} (h : seinelaw1_LettersSays s i = some r) : O 8 [(.str s), (.int .i64 i)] [] = some (seinelaw1_LettersSaysE r, []) := tO_spec (enc := fun r => (seinelaw1_LettersSaysE r, [])) h
def seinelaw1_awakeE : Bool → PV := fun r => PV.bool r
theorem seinelaw1_awakeEj (a b : Bool) (h : seinelaw1_awakeE a = seinelaw1_awakeE b) : a = b := Ev.bool_inj a b h
noncomputable def seinelaw1_awake : Option Bool := tO O 9 [] [] fun r => (seinelaw1_awakeE r, [])
theorem seinelaw1_awake_spec {r : Bool} (h : seinelaw1_awake = some r) : O 9 [] [] = some (seinelaw1_awakeE r, []) := tO_spec (enc := fun r => (seinelaw1_awakeE r, [])) h
def letters_CodeE : (Int × Int) → PV := fun r => .tuple [(PV.int .i64) r.1, (PV.int .i64) r.2]
theorem letters_CodeEj (a b : Int × Int) (h : letters_CodeE a = letters_CodeE b) : a = b := by
  simp only [letters_CodeE, PV.tuple.injEq, List.cons.injEq, and_true] at h
  exact Prod.ext ((Ev.int_inj _) _ _ h.1) ((Ev.int_inj _) _ _ h.2)
noncomputable def letters_Code (s : Str) (i : Int) : Option (Int × Int) := tO O 15 [(.str s), (.int .i64 i)] [] fun r => (letters_CodeE r, [])
theorem letters_Code_spec {s : Str} {i : Int} {r : Int × Int} (h : letters_Code s i = some r) : O 15 [(.str s), (.int .i64 i)] [] = some (letters_CodeE r, []) := tO_spec (enc := fun r => (letters_CodeE r, [])) h
def letters_GoodE : Bool → PV := fun r => PV.bool r
theorem letters_GoodEj (a b : Bool) (h : letters_GoodE a = letters_GoodE b) : a = b := Ev.bool_inj a b h
noncomputable def letters_Good (s : Str) : Option Bool := tO O 16 [(.str s)] [] fun r => (letters_GoodE r, [])
theorem letters_Good_spec {s : Str} {r : Bool} (h : letters_Good s = some r) : O 16 [(.str s)] [] = some (letters_GoodE r, []) := tO_spec (enc := fun r => (letters_GoodE r, [])) h
def letters_SourceE : Bool → PV := fun r => PV.bool r
theorem letters_SourceEj (a b : Bool) (h : letters_SourceE a = letters_SourceE b) : a = b := Ev.bool_inj a b h
noncomputable def letters_Source (s : Str) : Option Bool := tO O 17 [(.str s)] [] fun r => (letters_SourceE r, [])
theorem letters_Source_spec {s : Str} {r : Bool} (h : letters_Source s = some r) : O 17 [(.str s)] [] = some (letters_SourceE r, []) := tO_spec (enc := fun r => (letters_SourceE r, [])) h
def letters_UnitsE : ((List Int) × Bool) → PV := fun r => .tuple [(encSl (PV.int .i64)) r.1, PV.bool r.2]
theorem letters_UnitsEj (a b : (List Int) × Bool) (h : letters_UnitsE a = letters_UnitsE b) : a = b := by
  simp only [letters_UnitsE, PV.tuple.injEq, List.cons.injEq, and_true] at h
  exact Prod.ext ((Ev.encSl_inj (Ev.int_inj _)) _ _ h.1) (Ev.bool_inj _ _ h.2)
noncomputable def letters_Units (s : Str) : Option ((List Int) × Bool) := tO O 18 [(.str s)] [] fun r => (letters_UnitsE r, [])
theorem letters_Units_spec {s : Str} {r : (List Int) × Bool} (h : letters_Units s = some r) : O 18 [(.str s)] [] = some (letters_UnitsE r, []) := tO_spec (enc := fun r => (letters_UnitsE r, [])) h
def letters_JoinE : (Str × Bool) → PV := fun r => .tuple [PV.str r.1, PV.bool r.2]
theorem letters_JoinEj (a b : Str × Bool) (h : letters_JoinE a = letters_JoinE b) : a = b := by
  simp only [letters_JoinE, PV.tuple.injEq, List.cons.injEq, and_true] at h
  exact Prod.ext (Ev.str_inj _ _ h.1) (Ev.bool_inj _ _ h.2)
noncomputable def letters_Join (units : List Int) : Option (Str × Bool) := tO O 11 [(.slice (List.map (PV.int .i64) units) [] false)] [] fun r => (letters_JoinE r, [])
theorem letters_Join_spec {units : List Int} {r : Str × Bool} (h : letters_Join units = some r) : O 11 [(.slice (List.map (PV.int .i64) units) [] false)] [] = some (letters_JoinE r, []) := tO_spec (enc := fun r => (letters_JoinE r, [])) h
def seinekeep_SameIntsE : Bool → PV := fun r => PV.bool r
theorem seinekeep_SameIntsEj (a b : Bool) (h : seinekeep_SameIntsE a = seinekeep_SameIntsE b) : a = b := Ev.bool_inj a b h
noncomputable def seinekeep_SameInts (a : List Int) (b : List Int) : Option Bool := tO O 19 [(.slice (List.map (PV.int .i64) a) [] false), (.slice (List.map (PV.int .i64) b) [] false)] [] fun r => (seinekeep_SameIntsE r, [])
theorem seinekeep_SameInts_spec {a : List Int} {b : List Int} {r : Bool} (h : seinekeep_SameInts a b = some r) : O 19 [(.slice (List.map (PV.int .i64) a) [] false), (.slice (List.map (PV.int .i64) b) [] false)] [] = some (seinekeep_SameIntsE r, []) := tO_spec (enc := fun r => (seinekeep_SameIntsE r, [])) h
def seineref1_CodeE : (Int × Int) → PV := fun r => .tuple [(PV.int .i64) r.1, (PV.int .i64) r.2]
theorem seineref1_CodeEj (a b : Int × Int) (h : seineref1_CodeE a = seineref1_CodeE b) : a = b := by
  simp only [seineref1_CodeE, PV.tuple.injEq, List.cons.injEq, and_true] at h
  exact Prod.ext ((Ev.int_inj _) _ _ h.1) ((Ev.int_inj _) _ _ h.2)
noncomputable def seineref1_Code (s : Str) (i : Int) : Option (Int × Int) := tO O 20 [(.str s), (.int .i64 i)] [] fun r => (seineref1_CodeE r, [])
theorem seineref1_Code_spec {s : Str} {i : Int} {r : Int × Int} (h : seineref1_Code s i = some r) : O 20 [(.str s), (.int .i64 i)] [] = some (seineref1_CodeE r, []) := tO_spec (enc := fun r => (seineref1_CodeE r, [])) h
def seineref1_UnitsE : ((List Int) × Bool) → PV := fun r => .tuple [(encSl (PV.int .i64)) r.1, PV.bool r.2]
theorem seineref1_UnitsEj (a b : (List Int) × Bool) (h : seineref1_UnitsE a = seineref1_UnitsE b) : a = b := by
  simp only [seineref1_UnitsE, PV.tuple.injEq, List.cons.injEq, and_true] at h
  exact Prod.ext ((Ev.encSl_inj (Ev.int_inj _)) _ _ h.1) (Ev.bool_inj _ _ h.2)
noncomputable def seineref1_Units (s : Str) : Option ((List Int) × Bool) := tO O 21 [(.str s)] [] fun r => (seineref1_UnitsE r, [])
theorem seineref1_Units_spec {s : Str} {r : (List Int) × Bool} (h : seineref1_Units s = some r) : O 21 [(.str s)] [] = some (seineref1_UnitsE r, []) := tO_spec (enc := fun r => (seineref1_UnitsE r, [])) h
def seineref1_GoodE : Bool → PV := fun r => PV.bool r
theorem seineref1_GoodEj (a b : Bool) (h : seineref1_GoodE a = seineref1_GoodE b) : a = b := Ev.bool_inj a b h
noncomputable def seineref1_Good (s : Str) : Option Bool := tO O 22 [(.str s)] [] fun r => (seineref1_GoodE r, [])
theorem seineref1_Good_spec {s : Str} {r : Bool} (h : seineref1_Good s = some r) : O 22 [(.str s)] [] = some (seineref1_GoodE r, []) := tO_spec (enc := fun r => (seineref1_GoodE r, [])) h
def seineref1_SourceE : Bool → PV := fun r => PV.bool r
theorem seineref1_SourceEj (a b : Bool) (h : seineref1_SourceE a = seineref1_SourceE b) : a = b := Ev.bool_inj a b h
noncomputable def seineref1_Source (s : Str) : Option Bool := tO O 23 [(.str s)] [] fun r => (seineref1_SourceE r, [])
theorem seineref1_Source_spec {s : Str} {r : Bool} (h : seineref1_Source s = some r) : O 23 [(.str s)] [] = some (seineref1_SourceE r, []) := tO_spec (enc := fun r => (seineref1_SourceE r, [])) h
def letters_NameE : Bool → PV := fun r => PV.bool r
theorem letters_NameEj (a b : Bool) (h : letters_NameE a = letters_NameE b) : a = b := Ev.bool_inj a b h
noncomputable def letters_Name (s : Str) : Option Bool := tO O 14 [(.str s)] [] fun r => (letters_NameE r, [])
theorem letters_Name_spec {s : Str} {r : Bool} (h : letters_Name s = some r) : O 14 [(.str s)] [] = some (letters_NameE r, []) := tO_spec (enc := fun r => (letters_NameE r, [])) h
def seineref1_NameE : Bool → PV := fun r => PV.bool r
theorem seineref1_NameEj (a b : Bool) (h : seineref1_NameE a = seineref1_NameE b) : a = b := Ev.bool_inj a b h
noncomputable def seineref1_Name (s : Str) : Option Bool := tO O 24 [(.str s)] [] fun r => (seineref1_NameE r, [])
theorem seineref1_Name_spec {s : Str} {r : Bool} (h : seineref1_Name s = some r) : O 24 [(.str s)] [] = some (seineref1_NameE r, []) := tO_spec (enc := fun r => (seineref1_NameE r, [])) h
def utf8_DecodeRuneInStringE : (Int × Int) → PV := fun r => .tuple [(PV.int .i32) r.1, (PV.int .i64) r.2]
theorem utf8_DecodeRuneInStringEj (a b : Int × Int) (h : utf8_DecodeRuneInStringE a = utf8_DecodeRuneInStringE b) : a = b := by
  simp only [utf8_DecodeRuneInStringE, PV.tuple.injEq, List.cons.injEq, and_true] at h
  exact Prod.ext ((Ev.int_inj _) _ _ h.1) ((Ev.int_inj _) _ _ h.2)
noncomputable def utf8_DecodeRuneInString (s : Str) : Option (Int × Int) := tO O 29 [(.str s)] [] fun r => (utf8_DecodeRuneInStringE r, [])
theorem utf8_DecodeRuneInString_spec {s : Str} {r : Int × Int} (h : utf8_DecodeRuneInString s = some r) : O 29 [(.str s)] [] = some (utf8_DecodeRuneInStringE r, []) := tO_spec (enc := fun r => (utf8_DecodeRuneInStringE r, [])) h
def utf8_ValidStringE : Bool → PV := fun r => PV.bool r
theorem utf8_ValidStringEj (a b : Bool) (h : utf8_ValidStringE a = utf8_ValidStringE b) : a = b := Ev.bool_inj a b h
noncomputable def utf8_ValidString (s : Str) : Option Bool := tO O 30 [(.str s)] [] fun r => (utf8_ValidStringE r, [])
theorem utf8_ValidString_spec {s : Str} {r : Bool} (h : utf8_ValidString s = some r) : O 30 [(.str s)] [] = some (utf8_ValidStringE r, []) := tO_spec (enc := fun r => (utf8_ValidStringE r, [])) h
def letters_signE : Bool → PV := fun r => PV.bool r
theorem letters_signEj (a b : Bool) (h : letters_signE a = letters_signE b) : a = b := Ev.bool_inj a b h
noncomputable def letters_sign (c : Int) : Option Bool := tO O 31 [(.int .i64 c)] [] fun r => (letters_signE r, [])
theorem letters_sign_spec {c : Int} {r : Bool} (h : letters_sign c = some r) : O 31 [(.int .i64 c)] [] = some (letters_signE r, []) := tO_spec (enc := fun r => (letters_signE r, [])) h
def utf8_AppendRuneE : (List Int) → PV := fun r => .slice (List.map (PV.int .u8) r) [] true
theorem utf8_AppendRuneEj (a b : List Int) (h : utf8_AppendRuneE a = utf8_AppendRuneE b) : a = b := Ev.encSlO_inj (Ev.int_inj _) a b h
noncomputable def utf8_AppendRune (p0 : List Int) (r0 : Int) : Option (List Int) := tO O 25 [(.slice (List.map (PV.int .u8) p0) [] true), (.int .i32 r0)] [] fun r => (utf8_AppendRuneE r, [])
theorem utf8_AppendRune_spec {p0 : List Int} {r0 : Int} {r : List Int} (h : utf8_AppendRune p0 r0 = some r) : O 25 [(.slice (List.map (PV.int .u8) p0) [] true), (.int .i32 r0)] [] = some (utf8_AppendRuneE r, []) := tO_spec (enc := fun r => (utf8_AppendRuneE r, [])) h
def seineref1_CodesE : ((List Int) × Bool) → PV := fun r => .tuple [(encSl (PV.int .i64)) r.1, PV.bool r.2]
theorem seineref1_CodesEj (a b : (List Int) × Bool) (h : seineref1_CodesE a = seineref1_CodesE b) : a = b := by
  simp only [seineref1_CodesE, PV.tuple.injEq, List.cons.injEq, and_true] at h
  exact Prod.ext ((Ev.encSl_inj (Ev.int_inj _)) _ _ h.1) (Ev.bool_inj _ _ h.2)
noncomputable def seineref1_Codes (s : Str) : Option ((List Int) × Bool) := tO O 32 [(.str s)] [] fun r => (seineref1_CodesE r, [])
theorem seineref1_Codes_spec {s : Str} {r : (List Int) × Bool} (h : seineref1_Codes s = some r) : O 32 [(.str s)] [] = some (seineref1_CodesE r, []) := tO_spec (enc := fun r => (seineref1_CodesE r, [])) h
def letters_LetterE : Bool → PV := fun r => PV.bool r
theorem letters_LetterEj (a b : Bool) (h : letters_LetterE a = letters_LetterE b) : a = b := Ev.bool_inj a b h
noncomputable def letters_Letter (c : Int) : Option Bool := tO O 27 [(.int .u8 c)] [] fun r => (letters_LetterE r, [])
theorem letters_Letter_spec {c : Int} {r : Bool} (h : letters_Letter c = some r) : O 27 [(.int .u8 c)] [] = some (letters_LetterE r, []) := tO_spec (enc := fun r => (letters_LetterE r, [])) h
def letters_DigitE : Bool → PV := fun r => PV.bool r
theorem letters_DigitEj (a b : Bool) (h : letters_DigitE a = letters_DigitE b) : a = b := Ev.bool_inj a b h
noncomputable def letters_Digit (c : Int) : Option Bool := tO O 28 [(.int .u8 c)] [] fun r => (letters_DigitE r, [])
theorem letters_Digit_spec {c : Int} {r : Bool} (h : letters_Digit c = some r) : O 28 [(.int .u8 c)] [] = some (letters_DigitE r, []) := tO_spec (enc := fun r => (letters_DigitE r, [])) h
def seineref1_startE : Bool → PV := fun r => PV.bool r
theorem seineref1_startEj (a b : Bool) (h : seineref1_startE a = seineref1_startE b) : a = b := Ev.bool_inj a b h
noncomputable def seineref1_start (c : Int) : Option Bool := tO O 33 [(.int .u8 c)] [] fun r => (seineref1_startE r, [])
theorem seineref1_start_spec {c : Int} {r : Bool} (h : seineref1_start c = some r) : O 33 [(.int .u8 c)] [] = some (seineref1_startE r, []) := tO_spec (enc := fun r => (seineref1_startE r, [])) h
def seineref1_digitE : Bool → PV := fun r => PV.bool r
theorem seineref1_digitEj (a b : Bool) (h : seineref1_digitE a = seineref1_digitE b) : a = b := Ev.bool_inj a b h
noncomputable def seineref1_digit (c : Int) : Option Bool := tO O 34 [(.int .u8 c)] [] fun r => (seineref1_digitE r, [])
theorem seineref1_digit_spec {c : Int} {r : Bool} (h : seineref1_digit c = some r) : O 34 [(.int .u8 c)] [] = some (seineref1_digitE r, []) := tO_spec (enc := fun r => (seineref1_digitE r, [])) h
def utf8_appendRuneNonASCIIE : (List Int) → PV := fun r => .slice (List.map (PV.int .u8) r) [] true
theorem utf8_appendRuneNonASCIIEj (a b : List Int) (h : utf8_appendRuneNonASCIIE a = utf8_appendRuneNonASCIIE b) : a = b := Ev.encSlO_inj (Ev.int_inj _) a b h
noncomputable def utf8_appendRuneNonASCII (p0 : List Int) (r0 : Int) : Option (List Int) := tO O 35 [(.slice (List.map (PV.int .u8) p0) [] true), (.int .i32 r0)] [] fun r => (utf8_appendRuneNonASCIIE r, [])
theorem utf8_appendRuneNonASCII_spec {p0 : List Int} {r0 : Int} {r : List Int} (h : utf8_appendRuneNonASCII p0 r0 = some r) : O 35 [(.slice (List.map (PV.int .u8) p0) [] true), (.int .i32 r0)] [] = some (utf8_appendRuneNonASCIIE r, []) := tO_spec (enc := fun r => (utf8_appendRuneNonASCIIE r, [])) h
end Go.Proofs.YtanjedcndpcgfaaDoor

/- Printed by frames.py: the types' readings. -/
set_option linter.unusedVariables false
set_option linter.unusedSimpArgs false
open Go Go.Ev Go.Ev.PV
namespace Go.Proofs.YtanjedcndpcgfaaDoor
def bkRuntimeBoundsError (x : GRuntimeBoundsError) : Nat := (bk1 x.x + (bk1 x.y + (bk1 x.signed + (bk1 x.code + (0))))) + 1
def gdRuntimeBoundsError (x : GRuntimeBoundsError) : Prop := (gdI .i64) x.x ∧ ((gdI .i64) x.y ∧ (gd1 x.signed ∧ ((gdI .u8) x.code ∧ (True))))
theorem bkRuntimeBoundsError_eq (x : GRuntimeBoundsError) : bkRuntimeBoundsError x = (bk1 x.x + (bk1 x.y + (bk1 x.signed + (bk1 x.code + (0))))) + 1 := rfl
theorem gdRuntimeBoundsError_eq (x : GRuntimeBoundsError) : gdRuntimeBoundsError x = ((gdI .i64) x.x ∧ ((gdI .i64) x.y ∧ (gd1 x.signed ∧ ((gdI .u8) x.code ∧ (True))))) := rfl
def TS : Nat → TypeId
  | _ => 8
def BS : Nat → Ty
  | _ => (.fcons (.int .i64) (.fcons (.int .i64) (.fcons .bool (.fcons (.int .u8) .fnil))))
abbrev recRuntimeBoundsError : RecTy := ⟨GRuntimeBoundsError, encRuntimeBoundsError, 4, bkRuntimeBoundsError, gdRuntimeBoundsError, fun x => wf_agg _ (encRuntimeBoundsError_eq x) rfl rfl⟩
abbrev RS : REnv
  | _ => recRuntimeBoundsError
theorem hty : ∀ i, ∃ F, Tryd.prog.underlying (TS i) = some (.struct F) ∧ Tryd.prog.cellsOf (TS i) = (BS i).size RS ∧ flds RS Tryd.prog (tyOk RS TS Tryd.prog 9) F.toList 0 (BS i) = true
  | _ => ⟨_, Tryd.underlying8, by kernel_rfl, by kernel_rfl⟩
theorem cvRuntimeBoundsError (x0 : Int) (x1 : Int) (x2 : Bool) (x3 : Int) : encRuntimeBoundsError ⟨x0, x1, x2, x3⟩ = (PV.agg (((PV.int .i64) x0).cells ++ (PV.agg (((PV.int .i64) x1).cells ++ (PV.agg ((PV.bool x2).cells ++ (PV.agg (((PV.int .u8) x3).cells ++ (PV.agg []).cells)).cells)).cells)).cells)) := by
  simp only [tys, cells, List.cons_append, List.nil_append]
theorem hcv : ∀ i (x : (BS i).den RS), ∃ y : (RS i).D, (RS i).en y = enc RS (BS i) x ∧ (RS i).bk y ≤ bulk RS (BS i) x + 1 ∧ (good RS (BS i) x → (RS i).gd y)
  | _, ⟨x0, x1, x2, x3, _⟩ => ⟨(⟨x0, x1, x2, x3⟩ : GRuntimeBoundsError), (cvRuntimeBoundsError x0 x1 x2 x3).trans rfl, Nat.le_of_eq ((bkRuntimeBoundsError_eq _).trans rfl), fun h => (gdRuntimeBoundsError_eq _).mpr h⟩
theorem rok {H : Type} (e : TypeId × Value → H) (W : World) {bl : DataW H → Nat} {bla : List (DataW H) → Nat} (hb : BlOk bl bla) : ROk RS TS e Tryd.prog W bl where
  op := open_ext hb 9 BS hty hcv
  ag := fun i => match i with
    | _ => fun x => ⟨_, encRuntimeBoundsError_eq x⟩
  st := fun i => (hty i).imp fun F h => h.1
end Go.Proofs.YtanjedcndpcgfaaDoor
