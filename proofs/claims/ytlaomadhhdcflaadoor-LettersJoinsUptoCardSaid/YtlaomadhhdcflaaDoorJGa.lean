import Derived.Test.YtlaomadhhdcflaaDoorJEd
import Derived.Test.YtlaomadhhdcflaaDoorProg
import Derived.KernelRfl
set_option linter.unusedVariables false
set_option linter.unusedSimpArgs false
/- Printed by symgen.py: what the functions of this seat compute, as typed functions, and why. -/
set_option linter.unusedVariables false
set_option linter.unusedSimpArgs false
open Go Go.Ev Go.Ev.PV
namespace Go.Proofs.YtlaomadhhdcflaaDoor
structure GRuntimeBoundsError where
  x : Int
  y : Int
  signed : Bool
  code : Int

def shRuntimeBoundsError : Sh := .agg [(.int .i64), (.int .i64), .bool, (.int .u8)]
def encRuntimeBoundsError (x : GRuntimeBoundsError) : PV := .agg [.int .i64 x.x, .int .i64 x.y, .bool x.signed, .int .u8 x.code]
theorem encRuntimeBoundsError_eq (x : GRuntimeBoundsError) : encRuntimeBoundsError x = .agg [.int .i64 x.x, .int .i64 x.y, .bool x.signed, .int .u8 x.code] := rfl
theorem chk_GRuntimeBoundsError (x : GRuntimeBoundsError) : chk shRuntimeBoundsError (encRuntimeBoundsError x) = true := by rw [encRuntimeBoundsError_eq]; rfl
theorem inj_GRuntimeBoundsError (a b : GRuntimeBoundsError) (h : encRuntimeBoundsError a = encRuntimeBoundsError b) : a = b := by
  simp only [encRuntimeBoundsError_eq, PV.agg.injEq, List.cons.injEq, PV.slice.injEq, PV.str.injEq, PV.int.injEq, PV.bool.injEq, true_and, and_true] at h
  obtain ⟨a0, a1, a2, a3⟩ := a
  obtain ⟨b0, b1, b2, b3⟩ := b
  dsimp only at h
  have e0 := h.1
  have e1 := h.2.1
  have e2 := h.2.2.1
  have e3 := h.2.2.2
  subst e0 e1 e2 e3
  rfl
theorem tys : (∀ x : GRuntimeBoundsError, encRuntimeBoundsError x = .agg [.int .i64 x.x, .int .i64 x.y, .bool x.signed, .int .u8 x.code]) := encRuntimeBoundsError_eq
theorem chks : (∀ x, chk shRuntimeBoundsError (encRuntimeBoundsError x) = true) := chk_GRuntimeBoundsError
end Go.Proofs.YtlaomadhhdcflaaDoor

/- Printed by symgen.py: the functions, seen from outside. -/
set_option linter.unusedVariables false
set_option linter.unusedSimpArgs false
open Go Go.Ev Go.Ev.PV
namespace Go.Proofs.YtlaomadhhdcflaaDoor
def MTL : List (Nat × Hints) := [(3, { takes := [33, 35], gens := [], keeps := [], own := false, drop := true }),
  (5, { takes := [], gens := [], keeps := [], own := false, drop := true }),
  (6, { takes := [], gens := [], keeps := [], own := true, drop := true }),
  (7, { takes := [69, 72], gens := [], keeps := [(3, [0, 2, 3, 4, 5])], own := false, drop := true }),
  (8, { takes := [], gens := [], keeps := [(3, [0, 2, 3, 4, 5])], own := false, drop := true }),
  (9, { takes := [9], gens := [], keeps := [], own := false, drop := true }),
  (11, { takes := [], gens := [], keeps := [], own := false, drop := true }),
  (10, { takes := [], gens := [], keeps := [(2, [0, 2, 5, 6])], own := false, drop := true }),
  (12, { takes := [8, 13, 15], gens := [], keeps := [], own := true, drop := true }),
  (13, { takes := [], gens := [], keeps := [], own := false, drop := true }),
  (14, { takes := [], gens := [], keeps := [(4, [0, 1, 4, 5])], own := false, drop := true }),
  (17, { takes := [], gens := [], keeps := [], own := false, drop := true }),
  (15, { takes := [], gens := [], keeps := [], own := false, drop := true }),
  (16, { takes := [], gens := [], keeps := [], own := false, drop := true }),
  (18, { takes := [8, 14, 34, 57], gens := [], keeps := [], own := true, drop := true })]
def MT (f : FuncId) : Hints := match Go.Ev.look MTL f with | some m => m | none => {}
def XT : Ext := fun f => Go.Ev.look [(17, xDecode)] f
noncomputable def O : Orc := OL Tryd.prog MT XT
def seinelaw1_LettersJoinsE : Bool → PV := fun r => PV.bool r
theorem seinelaw1_LettersJoinsEj (a b : Bool) (h : seinelaw1_LettersJoinsE a = seinelaw1_LettersJoinsE b) : a = b := Ev.bool_inj a b h
noncomputable def seinelaw1_LettersJoins (l0 : List Int) : Option Bool := tO O 3 [(.slice (List.map (PV.int .i64) l0) [] false)] [] fun r => (seinelaw1_LettersJoinsE r, [])
theorem seinelaw1_LettersJoins_spec {l0 : List Int} {r : Bool} (h : seinelaw1_LettersJoins l0 = some r) : O 3 [(.slice (List.map (PV.int .i64) l0) [] false)] [] = some (seinelaw1_LettersJoinsE r, []) := tO_spec (enc := fun r => (seinelaw1_LettersJoinsE r, [])) h
def seinelaw1_awakeE : Bool → PV := fun r => PV.bool r
theorem seinelaw1_awakeEj (a b : Bool) (h : seinelaw1_awakeE a = seinelaw1_awakeE b) : a = b := Ev.bool_inj a b h
noncomputable def seinelaw1_awake : Option Bool := tO O 5 [] [] fun r => (seinelaw1_awakeE r, [])
theorem seinelaw1_awake_spec {r : Bool} (h : seinelaw1_awake = some r) : O 5 [] [] = some (seinelaw1_awakeE r, []) := tO_spec (enc := fun r => (seinelaw1_awakeE r, [])) h
def seinekeep_IntsE : ((List Int × List Int)) → PV := fun r => .slice (List.map (PV.int .i64) r.1) (List.map (PV.int .i64) r.2) false
theorem seinekeep_IntsEj (a b : (List Int × List Int)) (h : seinekeep_IntsE a = seinekeep_IntsE b) : a = b := Ev.encSlB_inj (Ev.int_inj _) a b h
noncomputable def seinekeep_Ints (l0 : List Int) : Option (List Int × List Int) := tO O 6 [(.slice (List.map (PV.int .i64) l0) [] false)] [] fun r => (seinekeep_IntsE r, [])
theorem seinekeep_Ints_spec {l0 : List Int} {r : (List Int × List Int)} (h : seinekeep_Ints l0 = some r) : O 6 [(.slice (List.map (PV.int .i64) l0) [] false)] [] = some (seinekeep_IntsE r, []) := tO_spec (enc := fun r => (seinekeep_IntsE r, [])) h
def letters_JoinE : (Str × Bool) → PV := fun r => .tuple [PV.str r.1, PV.bool r.2]
theorem letters_JoinEj (a b : Str × Bool) (h : letters_JoinE a = letters_JoinE b) : a = b := by
  simp only [letters_JoinE, PV.tuple.injEq, List.cons.injEq, and_true] at h
  exact Prod.ext (Ev.str_inj _ _ h.1) (Ev.bool_inj _ _ h.2)
noncomputable def letters_Join (units : List Int) : Option (Str × Bool) := tO O 7 [(.slice (List.map (PV.int .i64) units) [] false)] [] fun r => (letters_JoinE r, [])
theorem letters_Join_spec {units : List Int} {r : Str × Bool} (h : letters_Join units = some r) : O 7 [(.slice (List.map (PV.int .i64) units) [] false)] [] = some (letters_JoinE r, []) := tO_spec (enc := fun r => (letters_JoinE r, [])) h
def seineref1_JoinE : (Str × Bool) → PV := fun r => .tuple [PV.str r.1, PV.bool r.2]
theorem seineref1_JoinEj (a b : Str × Bool) (h : seineref1_JoinE a = seineref1_JoinE b) : a = b := by
  simp only [seineref1_JoinE, PV.tuple.injEq, List.cons.injEq, and_true] at h
  exact Prod.ext (Ev.str_inj _ _ h.1) (Ev.bool_inj _ _ h.2)
noncomputable def seineref1_Join (l0 : List Int) : Option (Str × Bool) := tO O 8 [(.slice (List.map (PV.int .i64) l0) [] false)] [] fun r => (seineref1_JoinE r, [])
theorem seineref1_Join_spec {l0 : List Int} {r : Str × Bool} (h : seineref1_Join l0 = some r) : O 8 [(.slice (List.map (PV.int .i64) l0) [] false)] [] = some (seineref1_JoinE r, []) := tO_spec (enc := fun r => (seineref1_JoinE r, [])) h
def seinekeep_IntsStayE : Bool → PV := fun r => PV.bool r
theorem seinekeep_IntsStayEj (a b : Bool) (h : seinekeep_IntsStayE a = seinekeep_IntsStayE b) : a = b := Ev.bool_inj a b h
noncomputable def seinekeep_IntsStay (c : List Int) (cb : List Int) (l0 : List Int) : Option Bool := tO O 9 [(.slice (List.map (PV.int .i64) c) (List.map (PV.int .i64) cb) false), (.slice (List.map (PV.int .i64) l0) [] false)] [] fun r => (seinekeep_IntsStayE r, [])
theorem seinekeep_IntsStay_spec {c : List Int} {cb : List Int} {l0 : List Int} {r : Bool} (h : seinekeep_IntsStay c cb l0 = some r) : O 9 [(.slice (List.map (PV.int .i64) c) (List.map (PV.int .i64) cb) false), (.slice (List.map (PV.int .i64) l0) [] false)] [] = some (seinekeep_IntsStayE r, []) := tO_spec (enc := fun r => (seinekeep_IntsStayE r, [])) h
def utf8_AppendRuneE : (List Int) → PV := fun r => .slice (List.map (PV.int .u8) r) [] true
theorem utf8_AppendRuneEj (a b : List Int) (h : utf8_AppendRuneE a = utf8_AppendRuneE b) : a = b := Ev.encSlO_inj (Ev.int_inj _) a b h
noncomputable def utf8_AppendRune (p0 : List Int) (r0 : Int) : Option (List Int) := tO O 12 [(.slice (List.map (PV.int .u8) p0) [] true), (.int .i32 r0)] [] fun r => (utf8_AppendRuneE r, [])
theorem utf8_AppendRune_spec {p0 : List Int} {r0 : Int} {r : List Int} (h : utf8_AppendRune p0 r0 = some r) : O 12 [(.slice (List.map (PV.int .u8) p0) [] true), (.int .i32 r0)] [] = some (utf8_AppendRuneE r, []) := tO_spec (enc := fun r => (utf8_AppendRuneE r, [])) h
def seineref1_PutE : Str → PV := fun r => PV.str r
theorem seineref1_PutEj (a b : Str) (h : seineref1_PutE a = seineref1_PutE b) : a = b := Ev.str_inj a b h
noncomputable def seineref1_Put (c : Int) : Option Str := tO O 13 [(.int .i64 c)] [] fun r => (seineref1_PutE r, [])
theorem seineref1_Put_spec {c : Int} {r : Str} (h : seineref1_Put c = some r) : O 13 [(.int .i64 c)] [] = some (seineref1_PutE r, []) := tO_spec (enc := fun r => (seineref1_PutE r, [])) h
def seinekeep_SameIntsE : Bool → PV := fun r => PV.bool r
theorem seinekeep_SameIntsEj (a b : Bool) (h : seinekeep_SameIntsE a = seinekeep_SameIntsE b) : a = b := Ev.bool_inj a b h
noncomputable def seinekeep_SameInts (a : List Int) (b : List Int) : Option Bool := tO O 14 [(.slice (List.map (PV.int .i64) a) [] false), (.slice (List.map (PV.int .i64) b) [] false)] [] fun r => (seinekeep_SameIntsE r, [])
theorem seinekeep_SameInts_spec {a : List Int} {b : List Int} {r : Bool} (h : seinekeep_SameInts a b = some r) : O 14 [(.slice (List.map (PV.int .i64) a) [] false), (.slice (List.map (PV.int .i64) b) [] false)] [] = some (seinekeep_SameIntsE r, []) := tO_spec (enc := fun r => (seinekeep_SameIntsE r, [])) h
def utf8_appendRuneNonASCIIE : (List Int) → PV := fun r => .slice (List.map (PV.int .u8) r) [] true
theorem utf8_appendRuneNonASCIIEj (a b : List Int) (h : utf8_appendRuneNonASCIIE a = utf8_appendRuneNonASCIIE b) : a = b := Ev.encSlO_inj (Ev.int_inj _) a b h
noncomputable def utf8_appendRuneNonASCII (p0 : List Int) (r0 : Int) : Option (List Int) := tO O 18 [(.slice (List.map (PV.int .u8) p0) [] true), (.int .i32 r0)] [] fun r => (utf8_appendRuneNonASCIIE r, [])
theorem utf8_appendRuneNonASCII_spec {p0 : List Int} {r0 : Int} {r : List Int} (h : utf8_appendRuneNonASCII p0 r0 = some r) : O 18 [(.slice (List.map (PV.int .u8) p0) [] true), (.int .i32 r0)] [] = some (utf8_appendRuneNonASCIIE r, []) := tO_spec (enc := fun r => (utf8_appendRuneNonASCIIE r, [])) h
end Go.Proofs.YtlaomadhhdcflaaDoor

/- Printed by frames.py: the types' readings. -/
set_option linter.unusedVariables false
set_option linter.unusedSimpArgs false
open Go Go.Ev Go.Ev.PV
namespace Go.Proofs.YtlaomadhhdcflaaDoor
def bkRuntimeBoundsError (x : GRuntimeBoundsError) : Nat := (bk1 x.x + (bk1 x.y + (bk1 x.signed + (bk1 x.code + (0))))) + 1
def gdRuntimeBoundsError (x : GRuntimeBoundsError) : Prop := (gdI .i64) x.x ∧ ((gdI .i64) x.y ∧ (gd1 x.signed ∧ ((gdI .u8) x.code ∧ (True))))
theorem bkRuntimeBoundsError_eq (x : GRuntimeBoundsError) : bkRuntimeBoundsError x = (bk1 x.x + (bk1 x.y + (bk1 x.signed + (bk1 x.code + (0))))) + 1 := rfl
theorem gdRuntimeBoundsError_eq (x : GRuntimeBoundsError) : gdRuntimeBoundsError x = ((gdI .i64) x.x ∧ ((gdI .i64) x.y ∧ (gd1 x.signed ∧ ((gdI .u8) x.code ∧ (True))))) := rfl
def TS : Nat → TypeId
  | _ => 8
def BS : Nat → Ty
  | _ => (.fcons (.int .i64) (.fcons (.int .i64) (.fcons .bool (.fcons (.int .u8) .fnil))))
abbrev recRuntimeBoundsError : RecTy := ⟨GRuntimeBoundsError, encRuntimeBoundsError, 4, bkRuntimeBoundsError, gdRuntimeBoundsError, fun x => wf_agg _ (encRuntimeBoundsError_eq x) rfl rfl⟩
abbrev RS : REnv
  | _ => recRuntimeBoundsError
theorem hty : ∀ i, ∃ F, Tryd.prog.underlying (TS i) = some (.struct F) ∧ Tryd.prog.cellsOf (TS i) = (BS i).size RS ∧ flds RS Tryd.prog (tyOk RS TS Tryd.prog 9) F.toList 0 (BS i) = true
  | _ => ⟨_, Tryd.underlying8, by kernel_rfl, by kernel_rfl⟩
theorem cvRuntimeBoundsError (x0 : Int) (x1 : Int) (x2 : Bool) (x3 : Int) : encRuntimeBoundsError ⟨x0, x1, x2, x3⟩ = (PV.agg (((PV.int .i64) x0).cells ++ (PV.agg (((PV.int .i64) x1).cells ++ (PV.agg ((PV.bool x2).cells ++ (PV.agg (((PV.int .u8) x3).cells ++ (PV.agg []).cells)).cells)).cells)).cells)) := by
  simp only [tys, cells, List.cons_append, List.nil_append]
theorem hcv : ∀ i (x : (BS i).den RS), ∃ y : (RS i).D, (RS i).en y = enc RS (BS i) x ∧ (RS i).bk y ≤ bulk RS (BS i) x + 1 ∧ (good RS (BS i) x → (RS i).gd y)
  | _, ⟨x0, x1, x2, x3, _⟩ => ⟨(⟨x0, x1, x2, x3⟩ : GRuntimeBoundsError), (cvRuntimeBoundsError x0 x1 x2 x3).trans rfl, Nat.le_of_eq ((bkRuntimeBoundsError_eq _).trans rfl), fun h => (gdRuntimeBoundsError_eq _).mpr h⟩
theorem rok {H : Type} (e : TypeId × Value → H) (W : World) {bl : DataW H → Nat} {bla : List (DataW H) → Nat} (hb : BlOk bl bla) : ROk RS TS e Tryd.prog W bl where
  op := open_ext hb 9 BS hty hcv
  ag := fun i => match i with
    | _ => fun x => ⟨_, encRuntimeBoundsError_eq x⟩
  st := fun i => (hty i).imp fun F h => h.1
end Go.Proofs.YtlaomadhhdcflaaDoor
