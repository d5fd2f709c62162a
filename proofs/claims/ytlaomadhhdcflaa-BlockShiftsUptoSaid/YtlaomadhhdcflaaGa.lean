import Derived.Test.YtlaomadhhdcflaaEd
import Derived.Test.YtlaomadhhdcflaaProg
import Derived.KernelRfl
set_option linter.unusedVariables false
set_option linter.unusedSimpArgs false
/- Printed by symgen.py: what the functions of this seat compute, as typed functions, and why. -/
set_option linter.unusedVariables false
set_option linter.unusedSimpArgs false
open Go Go.Ev Go.Ev.PV
namespace Go.Proofs.Ytlaomadhhdcflaa
structure GRuntimeBoundsError where
  x : Int
  y : Int
  signed : Bool
  code : Int

def shRuntimeBoundsError : Sh := .agg [(.int .i64), (.int .i64), .bool, (.int .u8)]
def encRuntimeBoundsError (x : GRuntimeBoundsError) : PV := .agg [.int .i64 x.x, .int .i64 x.y, .bool x.signed, .int .u8 x.code]
theorem encRuntimeBoundsError_eq (x : GRuntimeBoundsError) : encRuntimeBoundsError x = .agg [.int .i64 x.x, .int .i64 x.y, .bool x.signed, .int .u8 x.code] := rfl
theorem chk_GRuntimeBoundsError (x : GRuntimeBoundsError) : chk shRuntimeBoundsError (encRuntimeBoundsError x) = true := by rw [encRuntimeBoundsError_eq]; rfl
theorem inj_GRuntimeBoundsError (a b : GRuntimeBoundsError) (h : encRuntimeBoundsError a = encRuntimeBoundsError b) : a = b := by
  simp only [encRuntimeBoundsError_eq, PV.agg.injEq, List.cons.injEq, PV.slice.injEq, PV.str.injEq, PV.int.injEq, PV.bool.injEq, true_and, and_true] at h
  obtain ⟨a0, a1, a2, a3⟩ := a
  obtain ⟨b0, b1, b2, b3⟩ := b
  dsimp only at h
  have e0 := h.1
  have e1 := h.2.1
  have e2 := h.2.2.1
  have e3 := h.2.2.2
  subst e0 e1 e2 e3
  rfl
theorem tys : (∀ x : GRuntimeBoundsError, encRuntimeBoundsError x = .agg [.int .i64 x.x, .int .i64 x.y, .bool x.signed, .int .u8 x.code]) := encRuntimeBoundsError_eq
theorem chks : (∀ x, chk shRuntimeBoundsError (encRuntimeBoundsError x) = true) := chk_GRuntimeBoundsError
end Go.Proofs.Ytlaomadhhdcflaa

/- Printed by symgen.py: the functions, seen from outside. -/
set_option linter.unusedVariables false
set_option linter.unusedSimpArgs false
open Go Go.Ev Go.Ev.PV
namespace Go.Proofs.Ytlaomadhhdcflaa
def MTL : List (Nat × Hints) := [(3, { takes := [], gens := [], keeps := [], own := false, drop := true }),
  (4, { takes := [30, 32], gens := [], keeps := [(4, [0, 2, 3])], own := false, drop := true }),
  (5, { takes := [], gens := [], keeps := [(6, [0, 2, 3, 4, 5]), (9, [0, 2, 3, 4, 5, 6])], own := false, drop := true }),
  (6, { takes := [], gens := [], keeps := [(5, [0, 2, 3, 4])], own := false, drop := true }),
  (7, { takes := [], gens := [], keeps := [(5, [0, 1, 5, 6]), (10, [0, 4, 5, 7, 8, 9])], own := false, drop := true }),
  (8, { takes := [], gens := [], keeps := [], own := false, drop := true }),
  (9, { takes := [22, 51], gens := [], keeps := [(4, [0, 3, 4, 5])], own := true, drop := true }),
  (10, { takes := [22, 51], gens := [], keeps := [(4, [0, 3, 4, 5])], own := true, drop := true }),
  (11, { takes := [], gens := [], keeps := [(4, [0, 1, 4, 5])], own := false, drop := true }),
  (12, { takes := [], gens := [], keeps := [(3, [3, 8, 9, 10])], own := false, drop := true }),
  (13, { takes := [], gens := [], keeps := [(3, [0, 3, 4])], own := false, drop := true }),
  (14, { takes := [], gens := [], keeps := [(5, [3, 4, 5]), (8, [3]), (10, [3])], own := false, drop := true, vecs := [(7, 1)], frl := [(8, [3])], brw := [9] }),
  (15, { takes := [], gens := [], keeps := [(4, [3, 4, 5]), (8, [3, 6, 7]), (10, [3, 6, 7]), (14, [3, 6, 7, 8, 9])], own := false, drop := true, vecs := [(11, 1)], frz := [(7, [3])], brw := [13] }),
  (16, { takes := [], gens := [], keeps := [], own := true, drop := true }),
  (17, { takes := [9], gens := [], keeps := [], own := false, drop := true }),
  (18, { takes := [], gens := [], keeps := [(2, [0, 2, 3])], own := false, drop := true }),
  (19, { takes := [], gens := [], keeps := [(2, [0, 2, 3, 6, 7])], own := false, drop := true }),
  (20, { takes := [], gens := [], keeps := [(2, [0, 2, 3, 4])], own := false, drop := true }),
  (21, { takes := [], gens := [], keeps := [], own := false, drop := true }),
  (23, { takes := [], gens := [], keeps := [], own := false, drop := true }),
  (22, { takes := [], gens := [], keeps := [(12, [0, 1, 5, 39, 40, 41]), (22, [1, 8, 63, 64, 65])], own := false, drop := true })]
def MT (f : FuncId) : Hints := match Go.Ev.look MTL f with | some m => m | none => {}
def XT : Ext := fun f => Go.Ev.look [(22, xJoin)] f
noncomputable def O : Orc := OL Try.prog MT XT
def seinelaw2_BlockSaysE : Bool → PV := fun r => PV.bool r
theorem seinelaw2_BlockSaysEj (a b : Bool) (h : seinelaw2_BlockSaysE a = seinelaw2_BlockSaysE b) : a = b := Ev.bool_inj a b h
noncomputable def seinelaw2_BlockSays (raw : Str) : Option Bool := tO O 3 [(.str raw)] [] fun r => (seinelaw2_BlockSaysE r, [])
theorem seinelaw2_BlockSays_spec {raw : Str} {r : Bool} (h : seinelaw2_BlockSays raw = some r) : O 3 [(.str raw)] [] = some (seinelaw2_BlockSaysE r, []) := tO_spec (enc := fun r => (seinelaw2_BlockSaysE r, [])) h
def seinelaw2_BlockIndentsE : Bool → PV := fun r => PV.bool r
theorem seinelaw2_BlockIndentsEj (a b : Bool) (h : seinelaw2_BlockIndentsE a = seinelaw2_BlockIndentsE b) : a = b := Ev.bool_inj a b h
noncomputable def seinelaw2_BlockIndents (l0 : List Str) : Option Bool := tO O 4 [(.slice (List.map PV.str l0) [] false)] [] fun r => (seinelaw2_BlockIndentsE r, [])
theorem seinelaw2_BlockIndents_spec {l0 : List Str} {r : Bool} (h : seinelaw2_BlockIndents l0 = some r) : O 4 [(.slice (List.map PV.str l0) [] false)] [] = some (seinelaw2_BlockIndentsE r, []) := tO_spec (enc := fun r => (seinelaw2_BlockIndentsE r, [])) h
def seinelaw2_BlockLinesE : Bool → PV := fun r => PV.bool r
theorem seinelaw2_BlockLinesEj (a b : Bool) (h : seinelaw2_BlockLinesE a = seinelaw2_BlockLinesE b) : a = b := Ev.bool_inj a b h
noncomputable def seinelaw2_BlockLines (s : Str) : Option Bool := tO O 5 [(.str s)] [] fun r => (seinelaw2_BlockLinesE r, [])
theorem seinelaw2_BlockLines_spec {s : Str} {r : Bool} (h : seinelaw2_BlockLines s = some r) : O 5 [(.str s)] [] = some (seinelaw2_BlockLinesE r, []) := tO_spec (enc := fun r => (seinelaw2_BlockLinesE r, [])) h
def seinelaw2_BlockCleanE : Bool → PV := fun r => PV.bool r
theorem seinelaw2_BlockCleanEj (a b : Bool) (h : seinelaw2_BlockCleanE a = seinelaw2_BlockCleanE b) : a = b := Ev.bool_inj a b h
noncomputable def seinelaw2_BlockClean (raw : Str) : Option Bool := tO O 6 [(.str raw)] [] fun r => (seinelaw2_BlockCleanE r, [])
theorem seinelaw2_BlockClean_spec {raw : Str} {r : Bool} (h : seinelaw2_BlockClean raw = some r) : O 6 [(.str raw)] [] = some (seinelaw2_BlockCleanE r, []) := tO_spec (enc := fun r => (seinelaw2_BlockCleanE r, [])) h
def seinelaw2_BlockShiftsE : Bool → PV := fun r => PV.bool r
theorem seinelaw2_BlockShiftsEj (a b : Bool) (h : seinelaw2_BlockShiftsE a = seinelaw2_BlockShiftsE b) : a = b := Ev.bool_inj a b h
noncomputable def seinelaw2_BlockShifts (l0 : List Str) (n : Int) : Option Bool := tO O 7 [(.slice (List.map PV.str l0) [] false), (.int .i64 n)] [] fun r => (seinelaw2_BlockShiftsE r, [])
theorem seinelaw2_BlockShifts_spec {l0 : List Str} {n : Int} {r : Bool} (h : seinelaw2_BlockShifts l0 n = some r) : O 7 [(.slice (List.map PV.str l0) [] false), (.int .i64 n)] [] = some (seinelaw2_BlockShiftsE r, []) := tO_spec (enc := fun r => (seinelaw2_BlockShiftsE r, [])) h
def seinelaw2_awakeE : Bool → PV := fun r => PV.bool r
theorem seinelaw2_awakeEj (a b : Bool) (h : seinelaw2_awakeE a = seinelaw2_awakeE b) : a = b := Ev.bool_inj a b h
noncomputable def seinelaw2_awake : Option Bool := tO O 8 [] [] fun r => (seinelaw2_awakeE r, [])
theorem seinelaw2_awake_spec {r : Bool} (h : seinelaw2_awake = some r) : O 8 [] [] = some (seinelaw2_awakeE r, []) := tO_spec (enc := fun r => (seinelaw2_awakeE r, [])) h
def block_LinesE : (List Str) → PV := fun r => .slice (List.map PV.str r) [] true
theorem block_LinesEj (a b : List Str) (h : block_LinesE a = block_LinesE b) : a = b := Ev.encSlO_inj Ev.str_inj a b h
noncomputable def block_Lines (s : Str) : Option (List Str) := tO O 9 [(.str s)] [] fun r => (block_LinesE r, [])
theorem block_Lines_spec {s : Str} {r : List Str} (h : block_Lines s = some r) : O 9 [(.str s)] [] = some (block_LinesE r, []) := tO_spec (enc := fun r => (block_LinesE r, [])) h
def seineref1_LinesE : (List Str) → PV := fun r => .slice (List.map PV.str r) [] true
theorem seineref1_LinesEj (a b : List Str) (h : seineref1_LinesE a = seineref1_LinesE b) : a = b := Ev.encSlO_inj Ev.str_inj a b h
noncomputable def seineref1_Lines (s : Str) : Option (List Str) := tO O 10 [(.str s)] [] fun r => (seineref1_LinesE r, [])
theorem seineref1_Lines_spec {s : Str} {r : List Str} (h : seineref1_Lines s = some r) : O 10 [(.str s)] [] = some (seineref1_LinesE r, []) := tO_spec (enc := fun r => (seineref1_LinesE r, [])) h
def seinekeep_SameTextsE : Bool → PV := fun r => PV.bool r
theorem seinekeep_SameTextsEj (a b : Bool) (h : seinekeep_SameTextsE a = seinekeep_SameTextsE b) : a = b := Ev.bool_inj a b h
noncomputable def seinekeep_SameTexts (a : List Str) (b : List Str) : Option Bool := tO O 11 [(.slice (List.map PV.str a) [] false), (.slice (List.map PV.str b) [] false)] [] fun r => (seinekeep_SameTextsE r, [])
theorem seinekeep_SameTexts_spec {a : List Str} {b : List Str} {r : Bool} (h : seinekeep_SameTexts a b = some r) : O 11 [(.slice (List.map PV.str a) [] false), (.slice (List.map PV.str b) [] false)] [] = some (seinekeep_SameTextsE r, []) := tO_spec (enc := fun r => (seinekeep_SameTextsE r, [])) h
def block_IndentE : Int → PV := fun r => (PV.int .i64) r
theorem block_IndentEj (a b : Int) (h : block_IndentE a = block_IndentE b) : a = b := (Ev.int_inj _) a b h
noncomputable def block_Indent (l0 : List Str) : Option Int := tO O 12 [(.slice (List.map PV.str l0) [] false)] [] fun r => (block_IndentE r, [])
theorem block_Indent_spec {l0 : List Str} {r : Int} (h : block_Indent l0 = some r) : O 12 [(.slice (List.map PV.str l0) [] false)] [] = some (block_IndentE r, []) := tO_spec (enc := fun r => (block_IndentE r, [])) h
def seineref1_IndentE : Int → PV := fun r => (PV.int .i64) r
theorem seineref1_IndentEj (a b : Int) (h : seineref1_IndentE a = seineref1_IndentE b) : a = b := (Ev.int_inj _) a b h
noncomputable def seineref1_Indent (l0 : List Str) : Option Int := tO O 13 [(.slice (List.map PV.str l0) [] false)] [] fun r => (seineref1_IndentE r, [])
theorem seineref1_Indent_spec {l0 : List Str} {r : Int} (h : seineref1_Indent l0 = some r) : O 13 [(.slice (List.map PV.str l0) [] false)] [] = some (seineref1_IndentE r, []) := tO_spec (enc := fun r => (seineref1_IndentE r, [])) h
def block_ValueE : Str → PV := fun r => PV.str r
theorem block_ValueEj (a b : Str) (h : block_ValueE a = block_ValueE b) : a = b := Ev.str_inj a b h
noncomputable def block_Value (raw : Str) : Option Str := tO O 14 [(.str raw)] [] fun r => (block_ValueE r, [])
theorem block_Value_spec {raw : Str} {r : Str} (h : block_Value raw = some r) : O 14 [(.str raw)] [] = some (block_ValueE r, []) := tO_spec (enc := fun r => (block_ValueE r, [])) h
def seineref1_BlockE : Str → PV := fun r => PV.str r
theorem seineref1_BlockEj (a b : Str) (h : seineref1_BlockE a = seineref1_BlockE b) : a = b := Ev.str_inj a b h
noncomputable def seineref1_Block (raw : Str) : Option Str := tO O 15 [(.str raw)] [] fun r => (seineref1_BlockE r, [])
theorem seineref1_Block_spec {raw : Str} {r : Str} (h : seineref1_Block raw = some r) : O 15 [(.str raw)] [] = some (seineref1_BlockE r, []) := tO_spec (enc := fun r => (seineref1_BlockE r, [])) h
def seinekeep_TextsE : ((List Str × List Str)) → PV := fun r => .slice (List.map PV.str r.1) (List.map PV.str r.2) false
theorem seinekeep_TextsEj (a b : (List Str × List Str)) (h : seinekeep_TextsE a = seinekeep_TextsE b) : a = b := Ev.encSlB_inj Ev.str_inj a b h
noncomputable def seinekeep_Texts (l0 : List Str) : Option (List Str × List Str) := tO O 16 [(.slice (List.map PV.str l0) [] false)] [] fun r => (seinekeep_TextsE r, [])
theorem seinekeep_Texts_spec {l0 : List Str} {r : (List Str × List Str)} (h : seinekeep_Texts l0 = some r) : O 16 [(.slice (List.map PV.str l0) [] false)] [] = some (seinekeep_TextsE r, []) := tO_spec (enc := fun r => (seinekeep_TextsE r, [])) h
def seinekeep_TextsStayE : Bool → PV := fun r => PV.bool r
theorem seinekeep_TextsStayEj (a b : Bool) (h : seinekeep_TextsStayE a = seinekeep_TextsStayE b) : a = b := Ev.bool_inj a b h
noncomputable def seinekeep_TextsStay (c : List Str) (cb : List Str) (l0 : List Str) : Option Bool := tO O 17 [(.slice (List.map PV.str c) (List.map PV.str cb) false), (.slice (List.map PV.str l0) [] false)] [] fun r => (seinekeep_TextsStayE r, [])
theorem seinekeep_TextsStay_spec {c : List Str} {cb : List Str} {l0 : List Str} {r : Bool} (h : seinekeep_TextsStay c cb l0 = some r) : O 17 [(.slice (List.map PV.str c) (List.map PV.str cb) false), (.slice (List.map PV.str l0) [] false)] [] = some (seinekeep_TextsStayE r, []) := tO_spec (enc := fun r => (seinekeep_TextsStayE r, [])) h
def seinelaw2_blankE : Bool → PV := fun r => PV.bool r
theorem seinelaw2_blankEj (a b : Bool) (h : seinelaw2_blankE a = seinelaw2_blankE b) : a = b := Ev.bool_inj a b h
noncomputable def seinelaw2_blank (s : Str) : Option Bool := tO O 18 [(.str s)] [] fun r => (seinelaw2_blankE r, [])
theorem seinelaw2_blank_spec {s : Str} {r : Bool} (h : seinelaw2_blank s = some r) : O 18 [(.str s)] [] = some (seinelaw2_blankE r, []) := tO_spec (enc := fun r => (seinelaw2_blankE r, [])) h
def block_blanksE : (Int × Bool) → PV := fun r => .tuple [(PV.int .i64) r.1, PV.bool r.2]
theorem block_blanksEj (a b : Int × Bool) (h : block_blanksE a = block_blanksE b) : a = b := by
  simp only [block_blanksE, PV.tuple.injEq, List.cons.injEq, and_true] at h
  exact Prod.ext ((Ev.int_inj _) _ _ h.1) (Ev.bool_inj _ _ h.2)
noncomputable def block_blanks (s : Str) : Option (Int × Bool) := tO O 19 [(.str s)] [] fun r => (block_blanksE r, [])
theorem block_blanks_spec {s : Str} {r : Int × Bool} (h : block_blanks s = some r) : O 19 [(.str s)] [] = some (block_blanksE r, []) := tO_spec (enc := fun r => (block_blanksE r, [])) h
def seineref1_leadE : (Int × Bool) → PV := fun r => .tuple [(PV.int .i64) r.1, PV.bool r.2]
theorem seineref1_leadEj (a b : Int × Bool) (h : seineref1_leadE a = seineref1_leadE b) : a = b := by
  simp only [seineref1_leadE, PV.tuple.injEq, List.cons.injEq, and_true] at h
  exact Prod.ext ((Ev.int_inj _) _ _ h.1) (Ev.bool_inj _ _ h.2)
noncomputable def seineref1_lead (s : Str) : Option (Int × Bool) := tO O 20 [(.str s)] [] fun r => (seineref1_leadE r, [])
theorem seineref1_lead_spec {s : Str} {r : Int × Bool} (h : seineref1_lead s = some r) : O 20 [(.str s)] [] = some (seineref1_leadE r, []) := tO_spec (enc := fun r => (seineref1_leadE r, [])) h
def block_bareE : Bool → PV := fun r => PV.bool r
theorem block_bareEj (a b : Bool) (h : block_bareE a = block_bareE b) : a = b := Ev.bool_inj a b h
noncomputable def block_bare (s : Str) : Option Bool := tO O 21 [(.str s)] [] fun r => (block_bareE r, [])
theorem block_bare_spec {s : Str} {r : Bool} (h : block_bare s = some r) : O 21 [(.str s)] [] = some (block_bareE r, []) := tO_spec (enc := fun r => (block_bareE r, [])) h
def seineref1_blankE : Bool → PV := fun r => PV.bool r
theorem seineref1_blankEj (a b : Bool) (h : seineref1_blankE a = seineref1_blankE b) : a = b := Ev.bool_inj a b h
noncomputable def seineref1_blank (s : Str) : Option Bool := tO O 23 [(.str s)] [] fun r => (seineref1_blankE r, [])
theorem seineref1_blank_spec {s : Str} {r : Bool} (h : seineref1_blank s = some r) : O 23 [(.str s)] [] = some (seineref1_blankE r, []) := tO_spec (enc := fun r => (seineref1_blankE r, [])) h
def strings_JoinE : Str → PV := fun r => PV.str r
theorem strings_JoinEj (a b : Str) (h : strings_JoinE a = strings_JoinE b) : a = b := Ev.str_inj a b h
noncomputable def strings_Join (elems : List Str) (sep : Str) : Option Str := tO O 22 [(.slice (List.map PV.str elems) [] false), (.str sep)] [] fun r => (strings_JoinE r, [])
theorem strings_Join_spec {elems : List Str} {sep : Str} {r : Str} (h : strings_Join elems sep = some r) : O 22 [(.slice (List.map PV.str elems) [] false), (.str sep)] [] = some (strings_JoinE r, []) := tO_spec (enc := fun r => (strings_JoinE r, [])) h
end Go.Proofs.Ytlaomadhhdcflaa

/- Printed by frames.py: the types' readings. -/
set_option linter.unusedVariables false
set_option linter.unusedSimpArgs false
open Go Go.Ev Go.Ev.PV
namespace Go.Proofs.Ytlaomadhhdcflaa
def bkRuntimeBoundsError (x : GRuntimeBoundsError) : Nat := (bk1 x.x + (bk1 x.y + (bk1 x.signed + (bk1 x.code + (0))))) + 1
def gdRuntimeBoundsError (x : GRuntimeBoundsError) : Prop := (gdI .i64) x.x ∧ ((gdI .i64) x.y ∧ (gd1 x.signed ∧ ((gdI .u8) x.code ∧ (True))))
theorem bkRuntimeBoundsError_eq (x : GRuntimeBoundsError) : bkRuntimeBoundsError x = (bk1 x.x + (bk1 x.y + (bk1 x.signed + (bk1 x.code + (0))))) + 1 := rfl
theorem gdRuntimeBoundsError_eq (x : GRuntimeBoundsError) : gdRuntimeBoundsError x = ((gdI .i64) x.x ∧ ((gdI .i64) x.y ∧ (gd1 x.signed ∧ ((gdI .u8) x.code ∧ (True))))) := rfl
def TS : Nat → TypeId
  | _ => 8
def BS : Nat → Ty
  | _ => (.fcons (.int .i64) (.fcons (.int .i64) (.fcons .bool (.fcons (.int .u8) .fnil))))
abbrev recRuntimeBoundsError : RecTy := ⟨GRuntimeBoundsError, encRuntimeBoundsError, 4, bkRuntimeBoundsError, gdRuntimeBoundsError, fun x => wf_agg _ (encRuntimeBoundsError_eq x) rfl rfl⟩
abbrev RS : REnv
  | _ => recRuntimeBoundsError
theorem hty : ∀ i, ∃ F, Try.prog.underlying (TS i) = some (.struct F) ∧ Try.prog.cellsOf (TS i) = (BS i).size RS ∧ flds RS Try.prog (tyOk RS TS Try.prog 9) F.toList 0 (BS i) = true
  | _ => ⟨_, Try.underlying8, by kernel_rfl, by kernel_rfl⟩
theorem cvRuntimeBoundsError (x0 : Int) (x1 : Int) (x2 : Bool) (x3 : Int) : encRuntimeBoundsError ⟨x0, x1, x2, x3⟩ = (PV.agg (((PV.int .i64) x0).cells ++ (PV.agg (((PV.int .i64) x1).cells ++ (PV.agg ((PV.bool x2).cells ++ (PV.agg (((PV.int .u8) x3).cells ++ (PV.agg []).cells)).cells)).cells)).cells)) := by
  simp only [tys, cells, List.cons_append, List.nil_append]
theorem hcv : ∀ i (x : (BS i).den RS), ∃ y : (RS i).D, (RS i).en y = enc RS (BS i) x ∧ (RS i).bk y ≤ bulk RS (BS i) x + 1 ∧ (good RS (BS i) x → (RS i).gd y)
  | _, ⟨x0, x1, x2, x3, _⟩ => ⟨(⟨x0, x1, x2, x3⟩ : GRuntimeBoundsError), (cvRuntimeBoundsError x0 x1 x2 x3).trans rfl, Nat.le_of_eq ((bkRuntimeBoundsError_eq _).trans rfl), fun h => (gdRuntimeBoundsError_eq _).mpr h⟩
theorem rok {H : Type} (e : TypeId × Value → H) (W : World) {bl : DataW H → Nat} {bla : List (DataW H) → Nat} (hb : BlOk bl bla) : ROk RS TS e Try.prog W bl where
  op := open_ext hb 9 BS hty hcv
  ag := fun i => match i with
    | _ => fun x => ⟨_, encRuntimeBoundsError_eq x⟩
  st := fun i => (hty i).imp fun F h => h.1
end Go.Proofs.Ytlaomadhhdcflaa
