import Derived.Test.YtdnghbdhbahmeaaEd
import Derived.Test.YtdnghbdhbahmeaaProg
import Derived.KernelRfl
set_option linter.unusedVariables false
set_option linter.unusedSimpArgs false
/- Printed by symgen.py: what the functions of this seat compute, as typed functions, and why. -/
set_option linter.unusedVariables false
set_option linter.unusedSimpArgs false
open Go Go.Ev Go.Ev.PV
namespace Go.Proofs.Ytdnghbdhbahmeaa
structure GType where
  name : Str
  lists : Int
  musts : Int

def shType : Sh := .agg [.str, (.int .i64), (.int .i64)]
def encType (x : GType) : PV := .agg [.str x.name, .int .i64 x.lists, .int .i64 x.musts]
theorem encType_eq (x : GType) : encType x = .agg [.str x.name, .int .i64 x.lists, .int .i64 x.musts] := rfl
theorem chk_GType (x : GType) : chk shType (encType x) = true := by rw [encType_eq]; rfl
theorem inj_GType (a b : GType) (h : encType a = encType b) : a = b := by
  simp only [encType_eq, PV.agg.injEq, List.cons.injEq, PV.slice.injEq, PV.str.injEq, PV.int.injEq, PV.bool.injEq, true_and, and_true] at h
  obtain ⟨a0, a1, a2⟩ := a
  obtain ⟨b0, b1, b2⟩ := b
  dsimp only at h
  have e0 := h.1
  have e1 := h.2.1
  have e2 := h.2.2
  subst e0 e1 e2
  rfl
theorem tys : (∀ x : GType, encType x = .agg [.str x.name, .int .i64 x.lists, .int .i64 x.musts]) := encType_eq
theorem chks : (∀ x, chk shType (encType x) = true) := chk_GType
end Go.Proofs.Ytdnghbdhbahmeaa

/- Printed by symgen.py: the functions, seen from outside. -/
set_option linter.unusedVariables false
set_option linter.unusedSimpArgs false
open Go Go.Ev Go.Ev.PV
namespace Go.Proofs.Ytdnghbdhbahmeaa
def MTL : List (Nat × Hints) := [(3, { takes := [], gens := [], keeps := [], own := false, drop := true }),
  (4, { takes := [], gens := [], keeps := [], own := false, drop := true }),
  (5, { takes := [], gens := [], keeps := [], own := false, drop := true }),
  (6, { takes := [], gens := [], keeps := [], own := false, drop := true }),
  (7, { takes := [], gens := [], keeps := [], own := false, drop := true }),
  (8, { takes := [], gens := [], keeps := [], own := false, drop := true }),
  (9, { takes := [], gens := [], keeps := [(5, [1, 4, 5])], own := false, drop := true }),
  (10, { takes := [], gens := [], keeps := [(2, [0, 2, 4]), (5, [0, 2, 4, 5]), (12, [0, 2, 4, 6, 7, 8])], own := false, drop := true }),
  (11, { takes := [], gens := [], keeps := [], own := false, drop := true }),
  (12, { takes := [], gens := [], keeps := [], own := false, drop := true }),
  (13, { takes := [], gens := [], keeps := [], own := false, drop := true }),
  (14, { takes := [], gens := [], keeps := [], own := false, drop := true }),
  (15, { takes := [], gens := [], keeps := [], own := false, drop := true }),
  (16, { takes := [], gens := [], keeps := [], own := false, drop := true }),
  (17, { takes := [], gens := [], keeps := [], own := false, drop := true }),
  (18, { takes := [], gens := [], keeps := [(5, [1, 4, 5])], own := false, drop := true }),
  (19, { takes := [], gens := [], keeps := [], own := false, drop := true }),
  (20, { takes := [], gens := [], keeps := [(2, [0, 2, 4]), (5, [0, 2, 4, 5]), (11, [0, 2, 3, 4, 5, 6])], own := false, drop := true }),
  (21, { takes := [], gens := [], keeps := [], own := false, drop := true }),
  (22, { takes := [], gens := [], keeps := [], own := false, drop := true }),
  (23, { takes := [], gens := [], keeps := [], own := false, drop := true }),
  (24, { takes := [], gens := [], keeps := [], own := false, drop := true }),
  (25, { takes := [], gens := [], keeps := [], own := false, drop := true }),
  (26, { takes := [], gens := [], keeps := [], own := false, drop := true }),
  (27, { takes := [], gens := [], keeps := [(38, [7, 8, 9])], own := false, drop := true }),
  (28, { takes := [], gens := [], keeps := [], own := false, drop := true }),
  (29, { takes := [], gens := [], keeps := [], own := false, drop := true }),
  (30, { takes := [], gens := [], keeps := [], own := false, drop := true }),
  (31, { takes := [], gens := [], keeps := [(2, [0, 2, 5, 6])], own := false, drop := true }),
  (32, { takes := [], gens := [], keeps := [(4, [0, 2, 3])], own := false, drop := true }),
  (33, { takes := [], gens := [], keeps := [], own := false, drop := true }),
  (34, { takes := [], gens := [], keeps := [], own := false, drop := true }),
  (40, { takes := [], gens := [], keeps := [], own := false, drop := true }),
  (41, { takes := [], gens := [], keeps := [], own := false, drop := true }),
  (42, { takes := [], gens := [], keeps := [], own := false, drop := true }),
  (43, { takes := [], gens := [], keeps := [], own := false, drop := true })]
def MT (f : FuncId) : Hints := match Go.Ev.look MTL f with | some m => m | none => {}
def XT : Ext := fun f => Go.Ev.look [(27, xRepeat)] f
noncomputable def O : Orc := OL Try.prog MT XT
def seinelaw4_WrapBackE : Bool → PV := fun r => PV.bool r
theorem seinelaw4_WrapBackEj (a b : Bool) (h : seinelaw4_WrapBackE a = seinelaw4_WrapBackE b) : a = b := Ev.bool_inj a b h
noncomputable def seinelaw4_WrapBack (t : GType) (s : Str) : Option Bool := tO O 3 [(.agg [(.str t.name), (.int .i64 t.lists), (.int .i64 t.musts)]), (.str s)] [] fun r => (seinelaw4_WrapBackE r, [])
theorem seinelaw4_WrapBack_spec {t : GType} {s : Str} {r : Bool} (h : seinelaw4_WrapBack t s = some r) : O 3 [(.agg [(.str t.name), (.int .i64 t.lists), (.int .i64 t.musts)]), (.str s)] [] = some (seinelaw4_WrapBackE r, []) := tO_spec (enc := fun r => (seinelaw4_WrapBackE r, [])) h
def seinelaw4_WrapSubsE : Bool → PV := fun r => PV.bool r
theorem seinelaw4_WrapSubsEj (a b : Bool) (h : seinelaw4_WrapSubsE a = seinelaw4_WrapSubsE b) : a = b := Ev.bool_inj a b h
noncomputable def seinelaw4_WrapSubs (a : GType) (b : GType) : Option Bool := tO O 4 [(.agg [(.str a.name), (.int .i64 a.lists), (.int .i64 a.musts)]), (.agg [(.str b.name), (.int .i64 b.lists), (.int .i64 b.musts)])] [] fun r => (seinelaw4_WrapSubsE r, [])
theorem seinelaw4_WrapSubs_spec {a : GType} {b : GType} {r : Bool} (h : seinelaw4_WrapSubs a b = some r) : O 4 [(.agg [(.str a.name), (.int .i64 a.lists), (.int .i64 a.musts)]), (.agg [(.str b.name), (.int .i64 b.lists), (.int .i64 b.musts)])] [] = some (seinelaw4_WrapSubsE r, []) := tO_spec (enc := fun r => (seinelaw4_WrapSubsE r, [])) h
def seinelaw4_WrapOrderE : Bool → PV := fun r => PV.bool r
theorem seinelaw4_WrapOrderEj (a b : Bool) (h : seinelaw4_WrapOrderE a = seinelaw4_WrapOrderE b) : a = b := Ev.bool_inj a b h
noncomputable def seinelaw4_WrapOrder (a : GType) (b : GType) (c : GType) : Option Bool := tO O 5 [(.agg [(.str a.name), (.int .i64 a.lists), (.int .i64 a.musts)]), (.agg [(.str b.name), (.int .i64 b.lists), (.int .i64 b.musts)]), (.agg [(.str c.name), (.int .i64 c.lists), (.int .i64 c.musts)])] [] fun r => (seinelaw4_WrapOrderE r, [])
theorem seinelaw4_WrapOrder_spec {a : GType} {b : GType} {c : GType} {r : Bool} (h : seinelaw4_WrapOrder a b c = some r) : O 5 [(.agg [(.str a.name), (.int .i64 a.lists), (.int .i64 a.musts)]), (.agg [(.str b.name), (.int .i64 b.lists), (.int .i64 b.musts)]), (.agg [(.str c.name), (.int .i64 c.lists), (.int .i64 c.musts)])] [] = some (seinelaw4_WrapOrderE r, []) := tO_spec (enc := fun r => (seinelaw4_WrapOrderE r, [])) h
def seinelaw4_WrapItemsE : Bool → PV := fun r => PV.bool r
theorem seinelaw4_WrapItemsEj (a b : Bool) (h : seinelaw4_WrapItemsE a = seinelaw4_WrapItemsE b) : a = b := Ev.bool_inj a b h
noncomputable def seinelaw4_WrapItems (t : GType) : Option Bool := tO O 6 [(.agg [(.str t.name), (.int .i64 t.lists), (.int .i64 t.musts)])] [] fun r => (seinelaw4_WrapItemsE r, [])
theorem seinelaw4_WrapItems_spec {t : GType} {r : Bool} (h : seinelaw4_WrapItems t = some r) : O 6 [(.agg [(.str t.name), (.int .i64 t.lists), (.int .i64 t.musts)])] [] = some (seinelaw4_WrapItemsE r, []) := tO_spec (enc := fun r => (seinelaw4_WrapItemsE r, [])) h
def seinelaw4_WrapSaysE : Bool → PV := fun r => PV.bool r
theorem seinelaw4_WrapSaysEj (a b : Bool) (h : seinelaw4_WrapSaysE a = seinelaw4_WrapSaysE b) : a = b := Ev.bool_inj a b h
noncomputable def seinelaw4_WrapSays (t : GType) (s : Str) : Option Bool := tO O 7 [(.agg [(.str t.name), (.int .i64 t.lists), (.int .i64 t.musts)]), (.str s)] [] fun r => (seinelaw4_WrapSaysE r, [])
theorem seinelaw4_WrapSays_spec {t : GType} {s : Str} {r : Bool} (h : seinelaw4_WrapSays t s = some r) : O 7 [(.agg [(.str t.name), (.int .i64 t.lists), (.int .i64 t.musts)]), (.str s)] [] = some (seinelaw4_WrapSaysE r, []) := tO_spec (enc := fun r => (seinelaw4_WrapSaysE r, [])) h
def seinelaw4_awakeE : Bool → PV := fun r => PV.bool r
theorem seinelaw4_awakeEj (a b : Bool) (h : seinelaw4_awakeE a = seinelaw4_awakeE b) : a = b := Ev.bool_inj a b h
noncomputable def seinelaw4_awake : Option Bool := tO O 8 [] [] fun r => (seinelaw4_awakeE r, [])
theorem seinelaw4_awake_spec {r : Bool} (h : seinelaw4_awake = some r) : O 8 [] [] = some (seinelaw4_awakeE r, []) := tO_spec (enc := fun r => (seinelaw4_awakeE r, [])) h
def wrap_PrintE : (Str × Bool) → PV := fun r => .tuple [PV.str r.1, PV.bool r.2]
theorem wrap_PrintEj (a b : Str × Bool) (h : wrap_PrintE a = wrap_PrintE b) : a = b := by
  simp only [wrap_PrintE, PV.tuple.injEq, List.cons.injEq, and_true] at h
  exact Prod.ext (Ev.str_inj _ _ h.1) (Ev.bool_inj _ _ h.2)
noncomputable def wrap_Print (t : GType) : Option (Str × Bool) := tO O 9 [(.agg [(.str t.name), (.int .i64 t.lists), (.int .i64 t.musts)])] [] fun r => (wrap_PrintE r, [])
theorem wrap_Print_spec {t : GType} {r : Str × Bool} (h : wrap_Print t = some r) : O 9 [(.agg [(.str t.name), (.int .i64 t.lists), (.int .i64 t.musts)])] [] = some (wrap_PrintE r, []) := tO_spec (enc := fun r => (wrap_PrintE r, [])) h
def wrap_ReadE : (GType × Bool) → PV := fun r => .tuple [encType r.1, PV.bool r.2]
theorem wrap_ReadEj (a b : GType × Bool) (h : wrap_ReadE a = wrap_ReadE b) : a = b := by
  simp only [wrap_ReadE, PV.tuple.injEq, List.cons.injEq, and_true] at h
  exact Prod.ext (inj_GType _ _ h.1) (Ev.bool_inj _ _ h.2)
noncomputable def wrap_Read (s : Str) : Option (GType × Bool) := tO O 10 [(.str s)] [] fun r => (wrap_ReadE r, [])
theorem wrap_Read_spec {s : Str} {r : GType × Bool} (h : wrap_Read s = some r) : O 10 [(.str s)] [] = some (wrap_ReadE r, []) := tO_spec (enc := fun r => (wrap_ReadE r, [])) h
def wrap_RightE : Bool → PV := fun r => PV.bool r
theorem wrap_RightEj (a b : Bool) (h : wrap_RightE a = wrap_RightE b) : a = b := Ev.bool_inj a b h
noncomputable def wrap_Right (t : GType) : Option Bool := tO O 11 [(.agg [(.str t.name), (.int .i64 t.lists), (.int .i64 t.musts)])] [] fun r => (wrap_RightE r, [])
theorem wrap_Right_spec {t : GType} {r : Bool} (h : wrap_Right t = some r) : O 11 [(.agg [(.str t.name), (.int .i64 t.lists), (.int .i64 t.musts)])] [] = some (wrap_RightE r, []) := tO_spec (enc := fun r => (wrap_RightE r, [])) h
def wrap_SubE : Bool → PV := fun r => PV.bool r
theorem wrap_SubEj (a b : Bool) (h : wrap_SubE a = wrap_SubE b) : a = b := Ev.bool_inj a b h
noncomputable def wrap_Sub (a : GType) (b : GType) : Option Bool := tO O 12 [(.agg [(.str a.name), (.int .i64 a.lists), (.int .i64 a.musts)]), (.agg [(.str b.name), (.int .i64 b.lists), (.int .i64 b.musts)])] [] fun r => (wrap_SubE r, [])
theorem wrap_Sub_spec {a : GType} {b : GType} {r : Bool} (h : wrap_Sub a b = some r) : O 12 [(.agg [(.str a.name), (.int .i64 a.lists), (.int .i64 a.musts)]), (.agg [(.str b.name), (.int .i64 b.lists), (.int .i64 b.musts)])] [] = some (wrap_SubE r, []) := tO_spec (enc := fun r => (wrap_SubE r, [])) h
def seineref1_SubTypeE : Bool → PV := fun r => PV.bool r
theorem seineref1_SubTypeEj (a b : Bool) (h : seineref1_SubTypeE a = seineref1_SubTypeE b) : a = b := Ev.bool_inj a b h
noncomputable def seineref1_SubType (a : GType) (b : GType) : Option Bool := tO O 13 [(.agg [(.str a.name), (.int .i64 a.lists), (.int .i64 a.musts)]), (.agg [(.str b.name), (.int .i64 b.lists), (.int .i64 b.musts)])] [] fun r => (seineref1_SubTypeE r, [])
theorem seineref1_SubType_spec {a : GType} {b : GType} {r : Bool} (h : seineref1_SubType a b = some r) : O 13 [(.agg [(.str a.name), (.int .i64 a.lists), (.int .i64 a.musts)]), (.agg [(.str b.name), (.int .i64 b.lists), (.int .i64 b.musts)])] [] = some (seineref1_SubTypeE r, []) := tO_spec (enc := fun r => (seineref1_SubTypeE r, [])) h
def wrap_ListE : (GType × Bool) → PV := fun r => .tuple [encType r.1, PV.bool r.2]
theorem wrap_ListEj (a b : GType × Bool) (h : wrap_ListE a = wrap_ListE b) : a = b := by
  simp only [wrap_ListE, PV.tuple.injEq, List.cons.injEq, and_true] at h
  exact Prod.ext (inj_GType _ _ h.1) (Ev.bool_inj _ _ h.2)
noncomputable def wrap_List (t : GType) : Option (GType × Bool) := tO O 14 [(.agg [(.str t.name), (.int .i64 t.lists), (.int .i64 t.musts)])] [] fun r => (wrap_ListE r, [])
theorem wrap_List_spec {t : GType} {r : GType × Bool} (h : wrap_List t = some r) : O 14 [(.agg [(.str t.name), (.int .i64 t.lists), (.int .i64 t.musts)])] [] = some (wrap_ListE r, []) := tO_spec (enc := fun r => (wrap_ListE r, [])) h
def wrap_ItemE : (GType × Bool) → PV := fun r => .tuple [encType r.1, PV.bool r.2]
theorem wrap_ItemEj (a b : GType × Bool) (h : wrap_ItemE a = wrap_ItemE b) : a = b := by
  simp only [wrap_ItemE, PV.tuple.injEq, List.cons.injEq, and_true] at h
  exact Prod.ext (inj_GType _ _ h.1) (Ev.bool_inj _ _ h.2)
noncomputable def wrap_Item (t : GType) : Option (GType × Bool) := tO O 15 [(.agg [(.str t.name), (.int .i64 t.lists), (.int .i64 t.musts)])] [] fun r => (wrap_ItemE r, [])
theorem wrap_Item_spec {t : GType} {r : GType × Bool} (h : wrap_Item t = some r) : O 15 [(.agg [(.str t.name), (.int .i64 t.lists), (.int .i64 t.musts)])] [] = some (wrap_ItemE r, []) := tO_spec (enc := fun r => (wrap_ItemE r, [])) h
def wrap_IsE : Bool → PV := fun r => PV.bool r
theorem wrap_IsEj (a b : Bool) (h : wrap_IsE a = wrap_IsE b) : a = b := Ev.bool_inj a b h
noncomputable def wrap_Is (t : GType) : Option Bool := tO O 16 [(.agg [(.str t.name), (.int .i64 t.lists), (.int .i64 t.musts)])] [] fun r => (wrap_IsE r, [])
theorem wrap_Is_spec {t : GType} {r : Bool} (h : wrap_Is t = some r) : O 16 [(.agg [(.str t.name), (.int .i64 t.lists), (.int .i64 t.musts)])] [] = some (wrap_IsE r, []) := tO_spec (enc := fun r => (wrap_IsE r, [])) h
def wrap_BareE : GType → PV := fun r => encType r
theorem wrap_BareEj (a b : GType) (h : wrap_BareE a = wrap_BareE b) : a = b := inj_GType a b h
noncomputable def wrap_Bare (t : GType) : Option GType := tO O 17 [(.agg [(.str t.name), (.int .i64 t.lists), (.int .i64 t.musts)])] [] fun r => (wrap_BareE r, [])
theorem wrap_Bare_spec {t : GType} {r : GType} (h : wrap_Bare t = some r) : O 17 [(.agg [(.str t.name), (.int .i64 t.lists), (.int .i64 t.musts)])] [] = some (wrap_BareE r, []) := tO_spec (enc := fun r => (wrap_BareE r, [])) h
def seineref1_PrintTypeE : (Str × Bool) → PV := fun r => .tuple [PV.str r.1, PV.bool r.2]
theorem seineref1_PrintTypeEj (a b : Str × Bool) (h : seineref1_PrintTypeE a = seineref1_PrintTypeE b) : a = b := by
  simp only [seineref1_PrintTypeE, PV.tuple.injEq, List.cons.injEq, and_true] at h
  exact Prod.ext (Ev.str_inj _ _ h.1) (Ev.bool_inj _ _ h.2)
noncomputable def seineref1_PrintType (t : GType) : Option (Str × Bool) := tO O 18 [(.agg [(.str t.name), (.int .i64 t.lists), (.int .i64 t.musts)])] [] fun r => (seineref1_PrintTypeE r, [])
theorem seineref1_PrintType_spec {t : GType} {r : Str × Bool} (h : seineref1_PrintType t = some r) : O 18 [(.agg [(.str t.name), (.int .i64 t.lists), (.int .i64 t.musts)])] [] = some (seineref1_PrintTypeE r, []) := tO_spec (enc := fun r => (seineref1_PrintTypeE r, [])) h
def seineref1_RightTypeE : Bool → PV := fun r => PV.bool r
theorem seineref1_RightTypeEj (a b : Bool) (h : seineref1_RightTypeE a = seineref1_RightTypeE b) : a = b := Ev.bool_inj a b h
noncomputable def seineref1_RightType (t : GType) : Option Bool := tO O 19 [(.agg [(.str t.name), (.int .i64 t.lists), (.int .i64 t.musts)])] [] fun r => (seineref1_RightTypeE r, [])
theorem seineref1_RightType_spec {t : GType} {r : Bool} (h : seineref1_RightType t = some r) : O 19 [(.agg [(.str t.name), (.int .i64 t.lists), (.int .i64 t.musts)])] [] = some (seineref1_RightTypeE r, []) := tO_spec (enc := fun r => (seineref1_RightTypeE r, [])) h
def seineref1_ReadTypeE : (GType × Bool) → PV := fun r => .tuple [encType r.1, PV.bool r.2]
theorem seineref1_ReadTypeEj (a b : GType × Bool) (h : seineref1_ReadTypeE a = seineref1_ReadTypeE b) : a = b := by
  simp only [seineref1_ReadTypeE, PV.tuple.injEq, List.cons.injEq, and_true] at h
  exact Prod.ext (inj_GType _ _ h.1) (Ev.bool_inj _ _ h.2)
noncomputable def seineref1_ReadType (s : Str) : Option (GType × Bool) := tO O 20 [(.str s)] [] fun r => (seineref1_ReadTypeE r, [])
theorem seineref1_ReadType_spec {s : Str} {r : GType × Bool} (h : seineref1_ReadType s = some r) : O 20 [(.str s)] [] = some (seineref1_ReadTypeE r, []) := tO_spec (enc := fun r => (seineref1_ReadTypeE r, [])) h
def seineref1_ItemE : (GType × Bool) → PV := fun r => .tuple [encType r.1, PV.bool r.2]
theorem seineref1_ItemEj (a b : GType × Bool) (h : seineref1_ItemE a = seineref1_ItemE b) : a = b := by
  simp only [seineref1_ItemE, PV.tuple.injEq, List.cons.injEq, and_true] at h
  exact Prod.ext (inj_GType _ _ h.1) (Ev.bool_inj _ _ h.2)
noncomputable def seineref1_Item (t : GType) : Option (GType × Bool) := tO O 21 [(.agg [(.str t.name), (.int .i64 t.lists), (.int .i64 t.musts)])] [] fun r => (seineref1_ItemE r, [])
theorem seineref1_Item_spec {t : GType} {r : GType × Bool} (h : seineref1_Item t = some r) : O 21 [(.agg [(.str t.name), (.int .i64 t.lists), (.int .i64 t.musts)])] [] = some (seineref1_ItemE r, []) := tO_spec (enc := fun r => (seineref1_ItemE r, [])) h
def seineref1_ListE : (GType × Bool) → PV := fun r => .tuple [encType r.1, PV.bool r.2]
theorem seineref1_ListEj (a b : GType × Bool) (h : seineref1_ListE a = seineref1_ListE b) : a = b := by
  simp only [seineref1_ListE, PV.tuple.injEq, List.cons.injEq, and_true] at h
  exact Prod.ext (inj_GType _ _ h.1) (Ev.bool_inj _ _ h.2)
noncomputable def seineref1_List (t : GType) : Option (GType × Bool) := tO O 22 [(.agg [(.str t.name), (.int .i64 t.lists), (.int .i64 t.musts)])] [] fun r => (seineref1_ListE r, [])
theorem seineref1_List_spec {t : GType} {r : GType × Bool} (h : seineref1_List t = some r) : O 22 [(.agg [(.str t.name), (.int .i64 t.lists), (.int .i64 t.musts)])] [] = some (seineref1_ListE r, []) := tO_spec (enc := fun r => (seineref1_ListE r, [])) h
def wrap_MustE : GType → PV := fun r => encType r
theorem wrap_MustEj (a b : GType) (h : wrap_MustE a = wrap_MustE b) : a = b := inj_GType a b h
noncomputable def wrap_Must (t : GType) : Option GType := tO O 23 [(.agg [(.str t.name), (.int .i64 t.lists), (.int .i64 t.musts)])] [] fun r => (wrap_MustE r, [])
theorem wrap_Must_spec {t : GType} {r : GType} (h : wrap_Must t = some r) : O 23 [(.agg [(.str t.name), (.int .i64 t.lists), (.int .i64 t.musts)])] [] = some (wrap_MustE r, []) := tO_spec (enc := fun r => (wrap_MustE r, [])) h
def seineref1_MustE : GType → PV := fun r => encType r
theorem seineref1_MustEj (a b : GType) (h : seineref1_MustE a = seineref1_MustE b) : a = b := inj_GType a b h
noncomputable def seineref1_Must (t : GType) : Option GType := tO O 24 [(.agg [(.str t.name), (.int .i64 t.lists), (.int .i64 t.musts)])] [] fun r => (seineref1_MustE r, [])
theorem seineref1_Must_spec {t : GType} {r : GType} (h : seineref1_Must t = some r) : O 24 [(.agg [(.str t.name), (.int .i64 t.lists), (.int .i64 t.musts)])] [] = some (seineref1_MustE r, []) := tO_spec (enc := fun r => (seineref1_MustE r, [])) h
def seineref1_BareE : GType → PV := fun r => encType r
theorem seineref1_BareEj (a b : GType) (h : seineref1_BareE a = seineref1_BareE b) : a = b := inj_GType a b h
noncomputable def seineref1_Bare (t : GType) : Option GType := tO O 25 [(.agg [(.str t.name), (.int .i64 t.lists), (.int .i64 t.musts)])] [] fun r => (seineref1_BareE r, [])
theorem seineref1_Bare_spec {t : GType} {r : GType} (h : seineref1_Bare t = some r) : O 25 [(.agg [(.str t.name), (.int .i64 t.lists), (.int .i64 t.musts)])] [] = some (seineref1_BareE r, []) := tO_spec (enc := fun r => (seineref1_BareE r, [])) h
def seineref1_IsE : Bool → PV := fun r => PV.bool r
theorem seineref1_IsEj (a b : Bool) (h : seineref1_IsE a = seineref1_IsE b) : a = b := Ev.bool_inj a b h
noncomputable def seineref1_Is (t : GType) : Option Bool := tO O 26 [(.agg [(.str t.name), (.int .i64 t.lists), (.int .i64 t.musts)])] [] fun r => (seineref1_IsE r, [])
theorem seineref1_Is_spec {t : GType} {r : Bool} (h : seineref1_Is t = some r) : O 26 [(.agg [(.str t.name), (.int .i64 t.lists), (.int .i64 t.musts)])] [] = some (seineref1_IsE r, []) := tO_spec (enc := fun r => (seineref1_IsE r, [])) h
def strings_RepeatE : Str → PV := fun r => PV.str r
theorem strings_RepeatEj (a b : Str) (h : strings_RepeatE a = strings_RepeatE b) : a = b := Ev.str_inj a b h
noncomputable def strings_Repeat (s : Str) (count : Int) : Option Str := tO O 27 [(.str s), (.int .i64 count)] [] fun r => (strings_RepeatE r, [])
theorem strings_Repeat_spec {s : Str} {count : Int} {r : Str} (h : strings_Repeat s count = some r) : O 27 [(.str s), (.int .i64 count)] [] = some (strings_RepeatE r, []) := tO_spec (enc := fun r => (strings_RepeatE r, [])) h
def wrap_bitE : Bool → PV := fun r => PV.bool r
theorem wrap_bitEj (a b : Bool) (h : wrap_bitE a = wrap_bitE b) : a = b := Ev.bool_inj a b h
noncomputable def wrap_bit (t : GType) (i : Int) : Option Bool := tO O 28 [(.agg [(.str t.name), (.int .i64 t.lists), (.int .i64 t.musts)]), (.int .i64 i)] [] fun r => (wrap_bitE r, [])
theorem wrap_bit_spec {t : GType} {i : Int} {r : Bool} (h : wrap_bit t i = some r) : O 28 [(.agg [(.str t.name), (.int .i64 t.lists), (.int .i64 t.musts)]), (.int .i64 i)] [] = some (wrap_bitE r, []) := tO_spec (enc := fun r => (wrap_bitE r, [])) h
def strings_TrimPrefixE : Str → PV := fun r => PV.str r
theorem strings_TrimPrefixEj (a b : Str) (h : strings_TrimPrefixE a = strings_TrimPrefixE b) : a = b := Ev.str_inj a b h
noncomputable def strings_TrimPrefix (s : Str) (prefix0 : Str) : Option Str := tO O 29 [(.str s), (.str prefix0)] [] fun r => (strings_TrimPrefixE r, [])
theorem strings_TrimPrefix_spec {s : Str} {prefix0 : Str} {r : Str} (h : strings_TrimPrefix s prefix0 = some r) : O 29 [(.str s), (.str prefix0)] [] = some (strings_TrimPrefixE r, []) := tO_spec (enc := fun r => (strings_TrimPrefixE r, [])) h
def strings_HasPrefixE : Bool → PV := fun r => PV.bool r
theorem strings_HasPrefixEj (a b : Bool) (h : strings_HasPrefixE a = strings_HasPrefixE b) : a = b := Ev.bool_inj a b h
noncomputable def strings_HasPrefix (s : Str) (prefix0 : Str) : Option Bool := tO O 30 [(.str s), (.str prefix0)] [] fun r => (strings_HasPrefixE r, [])
theorem strings_HasPrefix_spec {s : Str} {prefix0 : Str} {r : Bool} (h : strings_HasPrefix s prefix0 = some r) : O 30 [(.str s), (.str prefix0)] [] = some (strings_HasPrefixE r, []) := tO_spec (enc := fun r => (strings_HasPrefixE r, [])) h
def letters_NameE : Bool → PV := fun r => PV.bool r
theorem letters_NameEj (a b : Bool) (h : letters_NameE a = letters_NameE b) : a = b := Ev.bool_inj a b h
noncomputable def letters_Name (s : Str) : Option Bool := tO O 31 [(.str s)] [] fun r => (letters_NameE r, [])
theorem letters_Name_spec {s : Str} {r : Bool} (h : letters_Name s = some r) : O 31 [(.str s)] [] = some (letters_NameE r, []) := tO_spec (enc := fun r => (letters_NameE r, [])) h
def seineref1_NameE : Bool → PV := fun r => PV.bool r
theorem seineref1_NameEj (a b : Bool) (h : seineref1_NameE a = seineref1_NameE b) : a = b := Ev.bool_inj a b h
noncomputable def seineref1_Name (s : Str) : Option Bool := tO O 32 [(.str s)] [] fun r => (seineref1_NameE r, [])
theorem seineref1_Name_spec {s : Str} {r : Bool} (h : seineref1_Name s = some r) : O 32 [(.str s)] [] = some (seineref1_NameE r, []) := tO_spec (enc := fun r => (seineref1_NameE r, [])) h
def seineref1_startE : Bool → PV := fun r => PV.bool r
theorem seineref1_startEj (a b : Bool) (h : seineref1_startE a = seineref1_startE b) : a = b := Ev.bool_inj a b h
noncomputable def seineref1_start (c : Int) : Option Bool := tO O 33 [(.int .u8 c)] [] fun r => (seineref1_startE r, [])
theorem seineref1_start_spec {c : Int} {r : Bool} (h : seineref1_start c = some r) : O 33 [(.int .u8 c)] [] = some (seineref1_startE r, []) := tO_spec (enc := fun r => (seineref1_startE r, [])) h
def seineref1_digitE : Bool → PV := fun r => PV.bool r
theorem seineref1_digitEj (a b : Bool) (h : seineref1_digitE a = seineref1_digitE b) : a = b := Ev.bool_inj a b h
noncomputable def seineref1_digit (c : Int) : Option Bool := tO O 34 [(.int .u8 c)] [] fun r => (seineref1_digitE r, [])
theorem seineref1_digit_spec {c : Int} {r : Bool} (h : seineref1_digit c = some r) : O 34 [(.int .u8 c)] [] = some (seineref1_digitE r, []) := tO_spec (enc := fun r => (seineref1_digitE r, [])) h
def stringslite_TrimPrefixE : Str → PV := fun r => PV.str r
theorem stringslite_TrimPrefixEj (a b : Str) (h : stringslite_TrimPrefixE a = stringslite_TrimPrefixE b) : a = b := Ev.str_inj a b h
noncomputable def stringslite_TrimPrefix (s : Str) (prefix0 : Str) : Option Str := tO O 40 [(.str s), (.str prefix0)] [] fun r => (stringslite_TrimPrefixE r, [])
theorem stringslite_TrimPrefix_spec {s : Str} {prefix0 : Str} {r : Str} (h : stringslite_TrimPrefix s prefix0 = some r) : O 40 [(.str s), (.str prefix0)] [] = some (stringslite_TrimPrefixE r, []) := tO_spec (enc := fun r => (stringslite_TrimPrefixE r, [])) h
def stringslite_HasPrefixE : Bool → PV := fun r => PV.bool r
theorem stringslite_HasPrefixEj (a b : Bool) (h : stringslite_HasPrefixE a = stringslite_HasPrefixE b) : a = b := Ev.bool_inj a b h
noncomputable def stringslite_HasPrefix (s : Str) (prefix0 : Str) : Option Bool := tO O 41 [(.str s), (.str prefix0)] [] fun r => (stringslite_HasPrefixE r, [])
theorem stringslite_HasPrefix_spec {s : Str} {prefix0 : Str} {r : Bool} (h : stringslite_HasPrefix s prefix0 = some r) : O 41 [(.str s), (.str prefix0)] [] = some (stringslite_HasPrefixE r, []) := tO_spec (enc := fun r => (stringslite_HasPrefixE r, [])) h
def letters_LetterE : Bool → PV := fun r => PV.bool r
theorem letters_LetterEj (a b : Bool) (h : letters_LetterE a = letters_LetterE b) : a = b := Ev.bool_inj a b h
noncomputable def letters_Letter (c : Int) : Option Bool := tO O 42 [(.int .u8 c)] [] fun r => (letters_LetterE r, [])
theorem letters_Letter_spec {c : Int} {r : Bool} (h : letters_Letter c = some r) : O 42 [(.int .u8 c)] [] = some (letters_LetterE r, []) := tO_spec (enc := fun r => (letters_LetterE r, [])) h
def letters_DigitE : Bool → PV := fun r => PV.bool r
theorem letters_DigitEj (a b : Bool) (h : letters_DigitE a = letters_DigitE b) : a = b := Ev.bool_inj a b h
noncomputable def letters_Digit (c : Int) : Option Bool := tO O 43 [(.int .u8 c)] [] fun r => (letters_DigitE r, [])
theorem letters_Digit_spec {c : Int} {r : Bool} (h : letters_Digit c = some r) : O 43 [(.int .u8 c)] [] = some (letters_DigitE r, []) := tO_spec (enc := fun r => (letters_DigitE r, [])) h
end Go.Proofs.Ytdnghbdhbahmeaa

/- Printed by frames.py: the types' readings. -/
set_option linter.unusedVariables false
set_option linter.unusedSimpArgs false
open Go Go.Ev Go.Ev.PV
namespace Go.Proofs.Ytdnghbdhbahmeaa
def bkType (x : GType) : Nat := (bkStr x.name + (bk1 x.lists + (bk1 x.musts + (0)))) + 1
def gdType (x : GType) : Prop := gd1 x.name ∧ ((gdI .i64) x.lists ∧ ((gdI .i64) x.musts ∧ (True)))
theorem bkType_eq (x : GType) : bkType x = (bkStr x.name + (bk1 x.lists + (bk1 x.musts + (0)))) + 1 := rfl
theorem gdType_eq (x : GType) : gdType x = (gd1 x.name ∧ ((gdI .i64) x.lists ∧ ((gdI .i64) x.musts ∧ (True)))) := rfl
def TS : Nat → TypeId
  | _ => 23
def BS : Nat → Ty
  | _ => (.fcons .str (.fcons (.int .i64) (.fcons (.int .i64) .fnil)))
abbrev recType : RecTy := ⟨GType, encType, 3, bkType, gdType, fun x => wf_agg _ (encType_eq x) rfl rfl⟩
abbrev RS : REnv
  | _ => recType
theorem hty : ∀ i, ∃ F, Try.prog.underlying (TS i) = some (.struct F) ∧ Try.prog.cellsOf (TS i) = (BS i).size RS ∧ flds RS Try.prog (tyOk RS TS Try.prog 9) F.toList 0 (BS i) = true
  | _ => ⟨_, Try.underlying23, by kernel_rfl, by kernel_rfl⟩
theorem cvType (x0 : Str) (x1 : Int) (x2 : Int) : encType ⟨x0, x1, x2⟩ = (PV.agg ((PV.str x0).cells ++ (PV.agg (((PV.int .i64) x1).cells ++ (PV.agg (((PV.int .i64) x2).cells ++ (PV.agg []).cells)).cells)).cells)) := by
  simp only [tys, cells, List.cons_append, List.nil_append]
theorem hcv : ∀ i (x : (BS i).den RS), ∃ y : (RS i).D, (RS i).en y = enc RS (BS i) x ∧ (RS i).bk y ≤ bulk RS (BS i) x + 1 ∧ (good RS (BS i) x → (RS i).gd y)
  | _, ⟨x0, x1, x2, _⟩ => ⟨(⟨x0, x1, x2⟩ : GType), (cvType x0 x1 x2).trans rfl, Nat.le_of_eq ((bkType_eq _).trans rfl), fun h => (gdType_eq _).mpr h⟩
theorem rok {H : Type} (e : TypeId × Value → H) (W : World) {bl : DataW H → Nat} {bla : List (DataW H) → Nat} (hb : BlOk bl bla) : ROk RS TS e Try.prog W bl where
  op := open_ext hb 9 BS hty hcv
  ag := fun i => match i with
    | _ => fun x => ⟨_, encType_eq x⟩
  st := fun i => (hty i).imp fun F h => h.1
end Go.Proofs.Ytdnghbdhbahmeaa
