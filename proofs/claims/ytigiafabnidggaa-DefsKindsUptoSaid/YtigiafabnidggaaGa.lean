import Derived.Test.YtigiafabnidggaaEd
import Derived.Test.YtigiafabnidggaaRows
import Derived.KernelRfl
set_option linter.unusedVariables false
set_option linter.unusedSimpArgs false
/- Printed by symgen.py: what the functions of this seat compute, as typed functions, and why. -/
set_option linter.unusedVariables false
set_option linter.unusedSimpArgs false
open Go Go.Ev Go.Ev.PV
namespace Go.Proofs.Ytigiafabnidggaa
structure GType where
  name : Str
  lists : Int
  musts : Int

mutual
structure GValue where
  kind : Int
  n : Int
  s : Str
  l : List GValue
  m : List GMember

structure GMember where
  name : Str
  v : GValue

end
structure GParam where
  name : Str
  t : GType
  has : Bool
  default : GValue

structure GDir where
  name : Str
  args : List GMember

structure GFieldDef where
  name : Str
  params : List GParam
  t : GType
  dirs : List GDir

structure GDef where
  kind : Int
  name : Str
  faces : List Str
  fields : List GFieldDef
  parts : List Str
  params : List GParam

structure GSchema where
  defs : List GDef
  query : Str
  mutation : Str

def shType : Sh := .agg [.str, (.int .i64), (.int .i64)]
def shValue : Sh := .agg [(.int .i64), (.int .i64), .str, (.sl false), (.sl false)]
def shMember : Sh := .agg [.str, (.int .i64), (.int .i64), .str, (.sl false), (.sl false)]
def shParam : Sh := .agg [.str, .str, (.int .i64), (.int .i64), .bool, (.int .i64), (.int .i64), .str, (.sl false), (.sl false)]
def shDir : Sh := .agg [.str, (.sl false)]
def shFieldDef : Sh := .agg [.str, (.sl false), .str, (.int .i64), (.int .i64), (.sl false)]
def shDef : Sh := .agg [(.int .i64), .str, (.sl false), (.sl false), (.sl false), (.sl false)]
def shSchema : Sh := .agg [(.sl false), .str, .str]
def encType (x : GType) : PV := .agg [.str x.name, .int .i64 x.lists, .int .i64 x.musts]
theorem encType_eq (x : GType) : encType x = .agg [.str x.name, .int .i64 x.lists, .int .i64 x.musts] := rfl
theorem chk_GType (x : GType) : chk shType (encType x) = true := by rw [encType_eq]; rfl
theorem inj_GType (a b : GType) (h : encType a = encType b) : a = b := by
  simp only [encType_eq, PV.agg.injEq, List.cons.injEq, PV.slice.injEq, PV.str.injEq, PV.int.injEq, PV.bool.injEq, true_and, and_true] at h
  obtain ⟨a0, a1, a2⟩ := a
  obtain ⟨b0, b1, b2⟩ := b
  dsimp only at h
  have e0 := h.1
  have e1 := h.2.1
  have e2 := h.2.2
  subst e0 e1 e2
  rfl
mutual
def encValue : GValue → PV
  | ⟨x0, x1, x2, x3, x4⟩ => .agg ([.int .i64 x0, .int .i64 x1, .str x2, .slice (encValues x3) [] false, .slice (encMembers x4) [] false])
def encMember : GMember → PV
  | ⟨x0, x1⟩ => .agg ([.str x0] ++ (encValue x1).cells)
def encValues : List GValue → List PV
  | [] => []
  | x :: l => encValue x :: encValues l
def encMembers : List GMember → List PV
  | [] => []
  | x :: l => encMember x :: encMembers l
end
theorem encValues_eq : ∀ (l : List GValue), encValues l = List.map encValue l
  | [] => by simp only [encValues, List.map]
  | x :: l => by simp only [encValues, List.map, encValues_eq l]
theorem encMembers_eq : ∀ (l : List GMember), encMembers l = List.map encMember l
  | [] => by simp only [encMembers, List.map]
  | x :: l => by simp only [encMembers, List.map, encMembers_eq l]
theorem encValue_eq (x : GValue) : encValue x = .agg [.int .i64 x.kind, .int .i64 x.n, .str x.s, .slice (List.map encValue x.l) [] false, .slice (List.map encMember x.m) [] false] := by
  cases x; simp only [encValue, cells, List.cons_append, List.nil_append, encValues_eq, encMembers_eq]
theorem encMember_eq (x : GMember) : encMember x = .agg [.str x.name, .int .i64 x.v.kind, .int .i64 x.v.n, .str x.v.s, .slice (List.map encValue x.v.l) [] false, .slice (List.map encMember x.v.m) [] false] := by
  cases x; simp only [encMember, cells, List.cons_append, List.nil_append, encValues_eq, encMembers_eq, encValue_eq]
theorem chk_GValue (x : GValue) : chk shValue (encValue x) = true := by rw [encValue_eq]; rfl
theorem chk_GMember (x : GMember) : chk shMember (encMember x) = true := by rw [encMember_eq]; rfl
mutual
theorem inj_GValue : ∀ (a b : GValue), encValue a = encValue b → a = b
  | ⟨a0, a1, a2, a3, a4⟩, ⟨b0, b1, b2, b3, b4⟩, h => by
    simp only [encValue, PV.agg.injEq, List.cons.injEq, List.append_eq, PV.slice.injEq, PV.str.injEq, PV.int.injEq, PV.bool.injEq, true_and, and_true] at h
    have e0 := h.1
    have e1 := h.2.1
    have e2 := h.2.2.1
    have e3 := inj_GValues _ _ h.2.2.2.1
    have e4 := inj_GMembers _ _ h.2.2.2.2
    subst e0 e1 e2 e3 e4
    rfl
theorem inj_GMember : ∀ (a b : GMember), encMember a = encMember b → a = b
  | ⟨a0, a1⟩, ⟨b0, b1⟩, h => by
    simp only [encMember, PV.agg.injEq, List.cons_append, List.nil_append, List.cons.injEq, PV.slice.injEq, PV.str.injEq, PV.int.injEq, PV.bool.injEq, true_and, and_true] at h
    have e0 := h.1
    have e1 := inj_GValue a1 b1 (by
      have h' := h.2
      cases a1; cases b1; simp only [encValue, cells] at h' ⊢; rw [h'])
    subst e0 e1
    rfl
theorem inj_GValues : ∀ (a b : List GValue), encValues a = encValues b → a = b
  | [], [], _ => rfl
  | [], _ :: _, h => by simp [encValues] at h
  | _ :: _, [], h => by simp [encValues] at h
  | x :: l, y :: m, h => by
    simp only [encValues, List.cons.injEq] at h
    rw [inj_GValue x y h.1, inj_GValues l m h.2]
theorem inj_GMembers : ∀ (a b : List GMember), encMembers a = encMembers b → a = b
  | [], [], _ => rfl
  | [], _ :: _, h => by simp [encMembers] at h
  | _ :: _, [], h => by simp [encMembers] at h
  | x :: l, y :: m, h => by
    simp only [encMembers, List.cons.injEq] at h
    rw [inj_GMember x y h.1, inj_GMembers l m h.2]
end
def encParam (x : GParam) : PV := .agg [.str x.name, .str x.t.name, .int .i64 x.t.lists, .int .i64 x.t.musts, .bool x.has, .int .i64 x.default.kind, .int .i64 x.default.n, .str x.default.s, .slice (List.map encValue x.default.l) [] false, .slice (List.map encMember x.default.m) [] false]
theorem encParam_eq (x : GParam) : encParam x = .agg [.str x.name, .str x.t.name, .int .i64 x.t.lists, .int .i64 x.t.musts, .bool x.has, .int .i64 x.default.kind, .int .i64 x.default.n, .str x.default.s, .slice (List.map encValue x.default.l) [] false, .slice (List.map encMember x.default.m) [] false] := rfl
theorem chk_GParam (x : GParam) : chk shParam (encParam x) = true := by rw [encParam_eq]; rfl
theorem inj_GParam (a b : GParam) (h : encParam a = encParam b) : a = b := by
  simp only [encParam_eq, PV.agg.injEq, List.cons.injEq, PV.slice.injEq, PV.str.injEq, PV.int.injEq, PV.bool.injEq, true_and, and_true] at h
  obtain ⟨a0, ⟨a1, a2, a3⟩, a4, ⟨a5, a6, a7, a8, a9⟩⟩ := a
  obtain ⟨b0, ⟨b1, b2, b3⟩, b4, ⟨b5, b6, b7, b8, b9⟩⟩ := b
  dsimp only at h
  have e0 := h.1
  have e1 := h.2.1
  have e2 := h.2.2.1
  have e3 := h.2.2.2.1
  have e4 := h.2.2.2.2.1
  have e5 := h.2.2.2.2.2.1
  have e6 := h.2.2.2.2.2.2.1
  have e7 := h.2.2.2.2.2.2.2.1
  have e8 := map_inj' inj_GValue h.2.2.2.2.2.2.2.2.1
  have e9 := map_inj' inj_GMember h.2.2.2.2.2.2.2.2.2
  subst e0 e1 e2 e3 e4 e5 e6 e7 e8 e9
  rfl
def encDir (x : GDir) : PV := .agg [.str x.name, .slice (List.map encMember x.args) [] false]
theorem encDir_eq (x : GDir) : encDir x = .agg [.str x.name, .slice (List.map encMember x.args) [] false] := rfl
theorem chk_GDir (x : GDir) : chk shDir (encDir x) = true := by rw [encDir_eq]; rfl
theorem inj_GDir (a b : GDir) (h : encDir a = encDir b) : a = b := by
  simp only [encDir_eq, PV.agg.injEq, List.cons.injEq, PV.slice.injEq, PV.str.injEq, PV.int.injEq, PV.bool.injEq, true_and, and_true] at h
  obtain ⟨a0, a1⟩ := a
  obtain ⟨b0, b1⟩ := b
  dsimp only at h
  have e0 := h.1
  have e1 := map_inj' inj_GMember h.2
  subst e0 e1
  rfl
def encFieldDef (x : GFieldDef) : PV := .agg [.str x.name, .slice (List.map encParam x.params) [] false, .str x.t.name, .int .i64 x.t.lists, .int .i64 x.t.musts, .slice (List.map encDir x.dirs) [] false]
theorem encFieldDef_eq (x : GFieldDef) : encFieldDef x = .agg [.str x.name, .slice (List.map encParam x.params) [] false, .str x.t.name, .int .i64 x.t.lists, .int .i64 x.t.musts, .slice (List.map encDir x.dirs) [] false] := rfl
theorem chk_GFieldDef (x : GFieldDef) : chk shFieldDef (encFieldDef x) = true := by rw [encFieldDef_eq]; rfl
theorem inj_GFieldDef (a b : GFieldDef) (h : encFieldDef a = encFieldDef b) : a = b := by
  simp only [encFieldDef_eq, PV.agg.injEq, List.cons.injEq, PV.slice.injEq, PV.str.injEq, PV.int.injEq, PV.bool.injEq, true_and, and_true] at h
  obtain ⟨a0, a1, ⟨a2, a3, a4⟩, a5⟩ := a
  obtain ⟨b0, b1, ⟨b2, b3, b4⟩, b5⟩ := b
  dsimp only at h
  have e0 := h.1
  have e1 := map_inj' inj_GParam h.2.1
  have e2 := h.2.2.1
  have e3 := h.2.2.2.1
  have e4 := h.2.2.2.2.1
  have e5 := map_inj' inj_GDir h.2.2.2.2.2
  subst e0 e1 e2 e3 e4 e5
  rfl
def encDef (x : GDef) : PV := .agg [.int .i64 x.kind, .str x.name, .slice (List.map PV.str x.faces) [] false, .slice (List.map encFieldDef x.fields) [] false, .slice (List.map PV.str x.parts) [] false, .slice (List.map encParam x.params) [] false]
theorem encDef_eq (x : GDef) : encDef x = .agg [.int .i64 x.kind, .str x.name, .slice (List.map PV.str x.faces) [] false, .slice (List.map encFieldDef x.fields) [] false, .slice (List.map PV.str x.parts) [] false, .slice (List.map encParam x.params) [] false] := rfl
theorem chk_GDef (x : GDef) : chk shDef (encDef x) = true := by rw [encDef_eq]; rfl
theorem inj_GDef (a b : GDef) (h : encDef a = encDef b) : a = b := by
  simp only [encDef_eq, PV.agg.injEq, List.cons.injEq, PV.slice.injEq, PV.str.injEq, PV.int.injEq, PV.bool.injEq, true_and, and_true] at h
  obtain ⟨a0, a1, a2, a3, a4, a5⟩ := a
  obtain ⟨b0, b1, b2, b3, b4, b5⟩ := b
  dsimp only at h
  have e0 := h.1
  have e1 := h.2.1
  have e2 := map_inj' Ev.str_inj h.2.2.1
  have e3 := map_inj' inj_GFieldDef h.2.2.2.1
  have e4 := map_inj' Ev.str_inj h.2.2.2.2.1
  have e5 := map_inj' inj_GParam h.2.2.2.2.2
  subst e0 e1 e2 e3 e4 e5
  rfl
def encSchema (x : GSchema) : PV := .agg [.slice (List.map encDef x.defs) [] false, .str x.query, .str x.mutation]
theorem encSchema_eq (x : GSchema) : encSchema x = .agg [.slice (List.map encDef x.defs) [] false, .str x.query, .str x.mutation] := rfl
theorem chk_GSchema (x : GSchema) : chk shSchema (encSchema x) = true := by rw [encSchema_eq]; rfl
theorem inj_GSchema (a b : GSchema) (h : encSchema a = encSchema b) : a = b := by
  simp only [encSchema_eq, PV.agg.injEq, List.cons.injEq, PV.slice.injEq, PV.str.injEq, PV.int.injEq, PV.bool.injEq, true_and, and_true] at h
  obtain ⟨a0, a1, a2⟩ := a
  obtain ⟨b0, b1, b2⟩ := b
  dsimp only at h
  have e0 := map_inj' inj_GDef h.1
  have e1 := h.2.1
  have e2 := h.2.2
  subst e0 e1 e2
  rfl
theorem tys : (∀ x : GType, encType x = .agg [.str x.name, .int .i64 x.lists, .int .i64 x.musts]) ∧
    (∀ x : GValue, encValue x = .agg [.int .i64 x.kind, .int .i64 x.n, .str x.s, .slice (List.map encValue x.l) [] false, .slice (List.map encMember x.m) [] false]) ∧
    (∀ x : GMember, encMember x = .agg [.str x.name, .int .i64 x.v.kind, .int .i64 x.v.n, .str x.v.s, .slice (List.map encValue x.v.l) [] false, .slice (List.map encMember x.v.m) [] false]) ∧
    (∀ x : GParam, encParam x = .agg [.str x.name, .str x.t.name, .int .i64 x.t.lists, .int .i64 x.t.musts, .bool x.has, .int .i64 x.default.kind, .int .i64 x.default.n, .str x.default.s, .slice (List.map encValue x.default.l) [] false, .slice (List.map encMember x.default.m) [] false]) ∧
    (∀ x : GDir, encDir x = .agg [.str x.name, .slice (List.map encMember x.args) [] false]) ∧
    (∀ x : GFieldDef, encFieldDef x = .agg [.str x.name, .slice (List.map encParam x.params) [] false, .str x.t.name, .int .i64 x.t.lists, .int .i64 x.t.musts, .slice (List.map encDir x.dirs) [] false]) ∧
    (∀ x : GDef, encDef x = .agg [.int .i64 x.kind, .str x.name, .slice (List.map PV.str x.faces) [] false, .slice (List.map encFieldDef x.fields) [] false, .slice (List.map PV.str x.parts) [] false, .slice (List.map encParam x.params) [] false]) ∧
    (∀ x : GSchema, encSchema x = .agg [.slice (List.map encDef x.defs) [] false, .str x.query, .str x.mutation]) := ⟨encType_eq, encValue_eq, encMember_eq, encParam_eq, encDir_eq, encFieldDef_eq, encDef_eq, encSchema_eq⟩
theorem chks : (∀ x, chk shType (encType x) = true) ∧
    (∀ x, chk shValue (encValue x) = true) ∧
    (∀ x, chk shMember (encMember x) = true) ∧
    (∀ x, chk shParam (encParam x) = true) ∧
    (∀ x, chk shDir (encDir x) = true) ∧
    (∀ x, chk shFieldDef (encFieldDef x) = true) ∧
    (∀ x, chk shDef (encDef x) = true) ∧
    (∀ x, chk shSchema (encSchema x) = true) := ⟨chk_GType, chk_GValue, chk_GMember, chk_GParam, chk_GDir, chk_GFieldDef, chk_GDef, chk_GSchema⟩
end Go.Proofs.Ytigiafabnidggaa

/- Printed by symgen.py: the functions, seen from outside. -/
set_option linter.unusedVariables false
set_option linter.unusedSimpArgs false
open Go Go.Ev Go.Ev.PV
namespace Go.Proofs.Ytigiafabnidggaa
def MTL : List (Nat × Hints) := [(3, { takes := [], gens := [], keeps := [], own := false }),
  (4, { takes := [], gens := [], keeps := [], own := false }),
  (5, { takes := [], gens := [], keeps := [(7, [1, 2, 4, 5, 6]), (10, [1, 2, 4, 5, 6, 7])], own := false }),
  (6, { takes := [], gens := [], keeps := [], own := false }),
  (7, { takes := [], gens := [], keeps := [], own := false }),
  (8, { takes := [], gens := [], keeps := [(3, [1, 3, 4]), (8, [1, 3, 4, 5, 6])], own := false }),
  (9, { takes := [], gens := [], keeps := [], own := false }),
  (33, { takes := [], gens := [], keeps := [], own := false }),
  (32, { takes := [], gens := [16], keeps := [(2, [0, 1, 4, 7, 8])], own := false }),
  (10, { takes := [], gens := [42], keeps := [], own := false }),
  (11, { takes := [], gens := [], keeps := [(7, [2, 6, 7, 8, 10])], own := false }),
  (12, { takes := [], gens := [], keeps := [], own := false }),
  (13, { takes := [], gens := [], keeps := [], own := false }),
  (14, { takes := [], gens := [], keeps := [(4, [7, 8, 18, 19, 20]), (7, [7, 8, 10, 18, 19, 20, 24, 25, 26])], own := false }),
  (15, { takes := [], gens := [], keeps := [(3, [6, 7, 8, 9])], own := false }),
  (16, { takes := [44, 47, 62, 64], gens := [], keeps := [(10, [1, 7, 29, 30, 31]), (17, [2, 7, 52, 53, 54])], own := false }),
  (17, { takes := [], gens := [], keeps := [(4, [1, 4, 5, 13, 14, 15])], own := false }),
  (18, { takes := [46, 65], gens := [], keeps := [(3, [1, 2, 3, 4]), (8, [1, 2, 3, 4, 5, 6, 7])], own := false }),
  (19, { takes := [], gens := [], keeps := [(4, [1, 2, 4, 5, 6])], own := false }),
  (20, { takes := [], gens := [], keeps := [(4, [2, 3, 4, 5])], own := false }),
  (21, { takes := [], gens := [], keeps := [], own := false }),
  (22, { takes := [], gens := [], keeps := [], own := false }),
  (23, { takes := [], gens := [], keeps := [], own := false }),
  (24, { takes := [], gens := [], keeps := [], own := false }),
  (25, { takes := [], gens := [], keeps := [], own := false }),
  (26, { takes := [], gens := [], keeps := [(4, [0, 1, 4, 5])], own := false }),
  (27, { takes := [24, 60, 93], gens := [], keeps := [(8, [1, 2, 7, 8]), (15, [2, 5, 7, 10])], own := false }),
  (28, { takes := [], gens := [], keeps := [(4, [2, 3, 4, 5])], own := false }),
  (29, { takes := [], gens := [], keeps := [(3, [0, 3, 4])], own := false }),
  (30, { takes := [], gens := [], keeps := [(3, [0, 3, 4])], own := false }),
  (31, { takes := [], gens := [], keeps := [(3, [0, 3, 4])], own := false }),
  (34, { takes := [], gens := [], keeps := [(4, [0, 1, 4, 5])], own := false }),
  (35, { takes := [], gens := [], keeps := [(4, [0, 1, 4, 5])], own := false }),
  (36, { takes := [], gens := [], keeps := [], own := false }),
  (37, { takes := [], gens := [], keeps := [(2, [0, 1, 4, 5])], own := false }),
  (38, { takes := [], gens := [], keeps := [], own := false }),
  (39, { takes := [8, 9], gens := [], keeps := [], own := true }),
  (40, { takes := [], gens := [], keeps := [], own := false }),
  (41, { takes := [], gens := [], keeps := [], own := false }),
  (42, { takes := [11], gens := [], keeps := [(3, [0, 3, 4])], own := false }),
  (43, { takes := [], gens := [], keeps := [], own := false }),
  (44, { takes := [], gens := [], keeps := [(4, [0, 1, 4, 5])], own := false }),
  (45, { takes := [], gens := [], keeps := [], own := false }),
  (46, { takes := [], gens := [], keeps := [], own := false }),
  (47, { takes := [], gens := [], keeps := [(3, [1, 3, 4]), (7, [1, 3, 5])], own := false }),
  (48, { takes := [], gens := [], keeps := [(4, [2, 3, 4, 5])], own := false }),
  (49, { takes := [], gens := [], keeps := [(4, [0, 1, 4, 5])], own := false }),
  (50, { takes := [], gens := [], keeps := [], own := false }),
  (51, { takes := [], gens := [], keeps := [(2, [0, 1, 4, 7, 8])], own := false }),
  (52, { takes := [11], gens := [], keeps := [(3, [0, 3, 4])], own := false }),
  (53, { takes := [], gens := [], keeps := [(2, [0, 1, 4, 7, 8])], own := false }),
  (54, { takes := [12], gens := [], keeps := [(3, [1, 2, 3, 4])], own := false })]
def MT (f : FuncId) : Hints := match Go.Ev.look MTL f with | some m => m | none => {}
def XT : Ext := fun _ => none
noncomputable def O : Orc := OL Try.prog MT XT
def seinelaw9_DefsFieldsE : Bool → PV := fun r => PV.bool r
theorem seinelaw9_DefsFieldsEj (a b : Bool) (h : seinelaw9_DefsFieldsE a = seinelaw9_DefsFieldsE b) : a = b := Ev.bool_inj a b h
noncomputable def seinelaw9_DefsFields (s : GSchema) (typ : Str) (name : Str) : Option Bool := tO O 3 [(.agg [(.slice (List.map encDef s.defs) [] false), (.str s.query), (.str s.mutation)]), (.str typ), (.str name)] [] fun r => (seinelaw9_DefsFieldsE r, [])
theorem seinelaw9_DefsFields_spec {s : GSchema} {typ : Str} {name : Str} {r : Bool} (h : seinelaw9_DefsFields s typ name = some r) : O 3 [(.agg [(.slice (List.map encDef s.defs) [] false), (.str s.query), (.str s.mutation)]), (.str typ), (.str name)] [] = some (seinelaw9_DefsFieldsE r, []) := tO_spec (enc := fun r => (seinelaw9_DefsFieldsE r, [])) h
def seinelaw9_DefsMeetsE : Bool → PV := fun r => PV.bool r
theorem seinelaw9_DefsMeetsEj (a b : Bool) (h : seinelaw9_DefsMeetsE a = seinelaw9_DefsMeetsE b) : a = b := Ev.bool_inj a b h
noncomputable def seinelaw9_DefsMeets (s : GSchema) (a : Str) (b : Str) : Option Bool := tO O 4 [(.agg [(.slice (List.map encDef s.defs) [] false), (.str s.query), (.str s.mutation)]), (.str a), (.str b)] [] fun r => (seinelaw9_DefsMeetsE r, [])
theorem seinelaw9_DefsMeets_spec {s : GSchema} {a : Str} {b : Str} {r : Bool} (h : seinelaw9_DefsMeets s a b = some r) : O 4 [(.agg [(.slice (List.map encDef s.defs) [] false), (.str s.query), (.str s.mutation)]), (.str a), (.str b)] [] = some (seinelaw9_DefsMeetsE r, []) := tO_spec (enc := fun r => (seinelaw9_DefsMeetsE r, [])) h
def seinelaw9_DefsPossibleE : Bool → PV := fun r => PV.bool r
theorem seinelaw9_DefsPossibleEj (a b : Bool) (h : seinelaw9_DefsPossibleE a = seinelaw9_DefsPossibleE b) : a = b := Ev.bool_inj a b h
noncomputable def seinelaw9_DefsPossible (s : GSchema) (name : Str) : Option Bool := tO O 5 [(.agg [(.slice (List.map encDef s.defs) [] false), (.str s.query), (.str s.mutation)]), (.str name)] [] fun r => (seinelaw9_DefsPossibleE r, [])
theorem seinelaw9_DefsPossible_spec {s : GSchema} {name : Str} {r : Bool} (h : seinelaw9_DefsPossible s name = some r) : O 5 [(.agg [(.slice (List.map encDef s.defs) [] false), (.str s.query), (.str s.mutation)]), (.str name)] [] = some (seinelaw9_DefsPossibleE r, []) := tO_spec (enc := fun r => (seinelaw9_DefsPossibleE r, [])) h
def seinelaw9_DefsSaysE : Bool → PV := fun r => PV.bool r
theorem seinelaw9_DefsSaysEj (a b : Bool) (h : seinelaw9_DefsSaysE a = seinelaw9_DefsSaysE b) : a = b := Ev.bool_inj a b h
noncomputable def seinelaw9_DefsSays (s : GSchema) (name : Str) : Option Bool := tO O 6 [(.agg [(.slice (List.map encDef s.defs) [] false), (.str s.query), (.str s.mutation)]), (.str name)] [] fun r => (seinelaw9_DefsSaysE r, [])
theorem seinelaw9_DefsSays_spec {s : GSchema} {name : Str} {r : Bool} (h : seinelaw9_DefsSays s name = some r) : O 6 [(.agg [(.slice (List.map encDef s.defs) [] false), (.str s.query), (.str s.mutation)]), (.str name)] [] = some (seinelaw9_DefsSaysE r, []) := tO_spec (enc := fun r => (seinelaw9_DefsSaysE r, [])) h
def seinelaw9_DefsKindsE : Bool → PV := fun r => PV.bool r
theorem seinelaw9_DefsKindsEj (a b : Bool) (h : seinelaw9_DefsKindsE a = seinelaw9_DefsKindsE b) : a = b := Ev.bool_inj a b h
noncomputable def seinelaw9_DefsKinds (s : GSchema) (name : Str) : Option Bool := tO O 7 [(.agg [(.slice (List.map encDef s.defs) [] false), (.str s.query), (.str s.mutation)]), (.str name)] [] fun r => (seinelaw9_DefsKindsE r, [])
theorem seinelaw9_DefsKinds_spec {s : GSchema} {name : Str} {r : Bool} (h : seinelaw9_DefsKinds s name = some r) : O 7 [(.agg [(.slice (List.map encDef s.defs) [] false), (.str s.query), (.str s.mutation)]), (.str name)] [] = some (seinelaw9_DefsKindsE r, []) := tO_spec (enc := fun r => (seinelaw9_DefsKindsE r, [])) h
def seinelaw8_LightE : Bool → PV := fun r => PV.bool r
theorem seinelaw8_LightEj (a b : Bool) (h : seinelaw8_LightE a = seinelaw8_LightE b) : a = b := Ev.bool_inj a b h
noncomputable def seinelaw8_Light (s : GSchema) : Option Bool := tO O 8 [(.agg [(.slice (List.map encDef s.defs) [] false), (.str s.query), (.str s.mutation)])] [] fun r => (seinelaw8_LightE r, [])
theorem seinelaw8_Light_spec {s : GSchema} {r : Bool} (h : seinelaw8_Light s = some r) : O 8 [(.agg [(.slice (List.map encDef s.defs) [] false), (.str s.query), (.str s.mutation)])] [] = some (seinelaw8_LightE r, []) := tO_spec (enc := fun r => (seinelaw8_LightE r, [])) h
def seinelaw9_awakeE : Bool → PV := fun r => PV.bool r
theorem seinelaw9_awakeEj (a b : Bool) (h : seinelaw9_awakeE a = seinelaw9_awakeE b) : a = b := Ev.bool_inj a b h
noncomputable def seinelaw9_awake : Option Bool := tO O 9 [] [] fun r => (seinelaw9_awakeE r, [])
theorem seinelaw9_awake_spec {r : Bool} (h : seinelaw9_awake = some r) : O 9 [] [] = some (seinelaw9_awakeE r, []) := tO_spec (enc := fun r => (seinelaw9_awakeE r, [])) h
def defs_Field_1E : Bool → PV := fun r => PV.bool r
def defs_Field_1U (f : GFieldDef) (u1_8 : GDef) (u1_6 : Str) (u1_60 : Str) (u1_600 : Int) (u1_6000 : Int) (u1_5 : Str) (u1_3 : GSchema) : Bool → UP := fun r => [[], [(8, [(.int .i64 u1_8.kind), (.str u1_8.name), (.slice (List.map PV.str u1_8.faces) [] false), (.slice (List.map encFieldDef u1_8.fields) [] false), (.slice (List.map PV.str u1_8.parts) [] false), (.slice (List.map encParam u1_8.params) [] false)]), (6, [(.str u1_6), (.slice [] [] true), (.str u1_60), (.int .i64 u1_600), (.int .i64 u1_6000), (.slice [] [] true)]), (5, [(.str u1_5)]), (3, [(.slice (List.map encDef u1_3.defs) [] false), (.str u1_3.query), (.str u1_3.mutation)])]]
theorem defs_Field_1Ej (a b : Bool) (h : defs_Field_1E a = defs_Field_1E b) : a = b := Ev.bool_inj a b h
noncomputable def defs_Field_1 (f : GFieldDef) (u1_8 : GDef) (u1_6 : Str) (u1_60 : Str) (u1_600 : Int) (u1_6000 : Int) (u1_5 : Str) (u1_3 : GSchema) : Option Bool := tO O 33 [(.agg [(.str f.name), (.slice (List.map encParam f.params) [] false), (.str f.t.name), (.int .i64 f.t.lists), (.int .i64 f.t.musts), (.slice (List.map encDir f.dirs) [] false)]), (.ptr 2 5 0)] [[], [(8, [(.int .i64 u1_8.kind), (.str u1_8.name), (.slice (List.map PV.str u1_8.faces) [] false), (.slice (List.map encFieldDef u1_8.fields) [] false), (.slice (List.map PV.str u1_8.parts) [] false), (.slice (List.map encParam u1_8.params) [] false)]), (6, [(.str u1_6), (.slice [] [] true), (.str u1_60), (.int .i64 u1_600), (.int .i64 u1_6000), (.slice [] [] true)]), (5, [(.str u1_5)]), (3, [(.slice (List.map encDef u1_3.defs) [] false), (.str u1_3.query), (.str u1_3.mutation)])]] fun r => (defs_Field_1E r, (defs_Field_1U f u1_8 u1_6 u1_60 u1_600 u1_6000 u1_5 u1_3 r))
theorem defs_Field_1_spec {f : GFieldDef} {u1_8 : GDef} {u1_6 : Str} {u1_60 : Str} {u1_600 : Int} {u1_6000 : Int} {u1_5 : Str} {u1_3 : GSchema} {r : Bool} (h : defs_Field_1 f u1_8 u1_6 u1_60 u1_600 u1_6000 u1_5 u1_3 = some r) : O 33 [(.agg [(.str f.name), (.slice (List.map encParam f.params) [] false), (.str f.t.name), (.int .i64 f.t.lists), (.int .i64 f.t.musts), (.slice (List.map encDir f.dirs) [] false)]), (.ptr 2 5 0)] [[], [(8, [(.int .i64 u1_8.kind), (.str u1_8.name), (.slice (List.map PV.str u1_8.faces) [] false), (.slice (List.map encFieldDef u1_8.fields) [] false), (.slice (List.map PV.str u1_8.parts) [] false), (.slice (List.map encParam u1_8.params) [] false)]), (6, [(.str u1_6), (.slice [] [] true), (.str u1_60), (.int .i64 u1_600), (.int .i64 u1_6000), (.slice [] [] true)]), (5, [(.str u1_5)]), (3, [(.slice (List.map encDef u1_3.defs) [] false), (.str u1_3.query), (.str u1_3.mutation)])]] = some (defs_Field_1E r, (defs_Field_1U f u1_8 u1_6 u1_60 u1_600 u1_6000 u1_5 u1_3 r)) := tO_spec (enc := fun r => (defs_Field_1E r, (defs_Field_1U f u1_8 u1_6 u1_60 u1_600 u1_6000 u1_5 u1_3 r))) h
def slices_IndexFunc_FieldDefE : Int → PV := fun r => (PV.int .i64) r
def slices_IndexFunc_FieldDefU (s : List GFieldDef) (u0_8 : GDef) (u0_6 : Str) (u0_60 : Str) (u0_600 : Int) (u0_6000 : Int) (u0_5 : Str) (u0_3 : GSchema) : Int → UP := fun r => [[(8, [(.int .i64 u0_8.kind), (.str u0_8.name), (.slice (List.map PV.str u0_8.faces) [] false), (.slice (List.map encFieldDef u0_8.fields) [] false), (.slice (List.map PV.str u0_8.parts) [] false), (.slice (List.map encParam u0_8.params) [] false)]), (6, [(.str u0_6), (.slice [] [] true), (.str u0_60), (.int .i64 u0_600), (.int .i64 u0_6000), (.slice [] [] true)]), (5, [(.str u0_5)]), (3, [(.slice (List.map encDef u0_3.defs) [] false), (.str u0_3.query), (.str u0_3.mutation)])]]
theorem slices_IndexFunc_FieldDefEj (a b : Int) (h : slices_IndexFunc_FieldDefE a = slices_IndexFunc_FieldDefE b) : a = b := (Ev.int_inj _) a b h
noncomputable def slices_IndexFunc_FieldDef (s : List GFieldDef) (u0_8 : GDef) (u0_6 : Str) (u0_60 : Str) (u0_600 : Int) (u0_6000 : Int) (u0_5 : Str) (u0_3 : GSchema) : Option Int := tO O 32 [(.slice (List.map encFieldDef s) [] false), (.func (.func 33) [] [(.ptr 1 5 0)])] [[(8, [(.int .i64 u0_8.kind), (.str u0_8.name), (.slice (List.map PV.str u0_8.faces) [] false), (.slice (List.map encFieldDef u0_8.fields) [] false), (.slice (List.map PV.str u0_8.parts) [] false), (.slice (List.map encParam u0_8.params) [] false)]), (6, [(.str u0_6), (.slice [] [] true), (.str u0_60), (.int .i64 u0_600), (.int .i64 u0_6000), (.slice [] [] true)]), (5, [(.str u0_5)]), (3, [(.slice (List.map encDef u0_3.defs) [] false), (.str u0_3.query), (.str u0_3.mutation)])]] fun r => (slices_IndexFunc_FieldDefE r, (slices_IndexFunc_FieldDefU s u0_8 u0_6 u0_60 u0_600 u0_6000 u0_5 u0_3 r))
theorem slices_IndexFunc_FieldDef_spec {s : List GFieldDef} {u0_8 : GDef} {u0_6 : Str} {u0_60 : Str} {u0_600 : Int} {u0_6000 : Int} {u0_5 : Str} {u0_3 : GSchema} {r : Int} (h : slices_IndexFunc_FieldDef s u0_8 u0_6 u0_60 u0_600 u0_6000 u0_5 u0_3 = some r) : O 32 [(.slice (List.map encFieldDef s) [] false), (.func (.func 33) [] [(.ptr 1 5 0)])] [[(8, [(.int .i64 u0_8.kind), (.str u0_8.name), (.slice (List.map PV.str u0_8.faces) [] false), (.slice (List.map encFieldDef u0_8.fields) [] false), (.slice (List.map PV.str u0_8.parts) [] false), (.slice (List.map encParam u0_8.params) [] false)]), (6, [(.str u0_6), (.slice [] [] true), (.str u0_60), (.int .i64 u0_600), (.int .i64 u0_6000), (.slice [] [] true)]), (5, [(.str u0_5)]), (3, [(.slice (List.map encDef u0_3.defs) [] false), (.str u0_3.query), (.str u0_3.mutation)])]] = some (slices_IndexFunc_FieldDefE r, (slices_IndexFunc_FieldDefU s u0_8 u0_6 u0_60 u0_600 u0_6000 u0_5 u0_3 r)) := tO_spec (enc := fun r => (slices_IndexFunc_FieldDefE r, (slices_IndexFunc_FieldDefU s u0_8 u0_6 u0_60 u0_600 u0_6000 u0_5 u0_3 r))) h
def defs_FieldE : (GFieldDef × Bool) → PV := fun r => .tuple [encFieldDef r.1, PV.bool r.2]
theorem defs_FieldEj (a b : GFieldDef × Bool) (h : defs_FieldE a = defs_FieldE b) : a = b := by
  simp only [defs_FieldE, PV.tuple.injEq, List.cons.injEq, and_true] at h
  exact Prod.ext (inj_GFieldDef _ _ h.1) (Ev.bool_inj _ _ h.2)
noncomputable def defs_Field (s : GSchema) (typ : Str) (name : Str) : Option (GFieldDef × Bool) := tO O 10 [(.agg [(.slice (List.map encDef s.defs) [] false), (.str s.query), (.str s.mutation)]), (.str typ), (.str name)] [] fun r => (defs_FieldE r, [])
theorem defs_Field_spec {s : GSchema} {typ : Str} {name : Str} {r : GFieldDef × Bool} (h : defs_Field s typ name = some r) : O 10 [(.agg [(.slice (List.map encDef s.defs) [] false), (.str s.query), (.str s.mutation)]), (.str typ), (.str name)] [] = some (defs_FieldE r, []) := tO_spec (enc := fun r => (defs_FieldE r, [])) h
def seineref9_FieldE : (GFieldDef × Bool) → PV := fun r => .tuple [encFieldDef r.1, PV.bool r.2]
theorem seineref9_FieldEj (a b : GFieldDef × Bool) (h : seineref9_FieldE a = seineref9_FieldE b) : a = b := by
  simp only [seineref9_FieldE, PV.tuple.injEq, List.cons.injEq, and_true] at h
  exact Prod.ext (inj_GFieldDef _ _ h.1) (Ev.bool_inj _ _ h.2)
noncomputable def seineref9_Field (s : GSchema) (typ : Str) (name : Str) : Option (GFieldDef × Bool) := tO O 11 [(.agg [(.slice (List.map encDef s.defs) [] false), (.str s.query), (.str s.mutation)]), (.str typ), (.str name)] [] fun r => (seineref9_FieldE r, [])
theorem seineref9_Field_spec {s : GSchema} {typ : Str} {name : Str} {r : GFieldDef × Bool} (h : seineref9_Field s typ name = some r) : O 11 [(.agg [(.slice (List.map encDef s.defs) [] false), (.str s.query), (.str s.mutation)]), (.str typ), (.str name)] [] = some (seineref9_FieldE r, []) := tO_spec (enc := fun r => (seineref9_FieldE r, [])) h
def seineref6_SameFieldE : Bool → PV := fun r => PV.bool r
theorem seineref6_SameFieldEj (a b : Bool) (h : seineref6_SameFieldE a = seineref6_SameFieldE b) : a = b := Ev.bool_inj a b h
noncomputable def seineref6_SameField (a : GFieldDef) (b : GFieldDef) : Option Bool := tO O 12 [(.agg [(.str a.name), (.slice (List.map encParam a.params) [] false), (.str a.t.name), (.int .i64 a.t.lists), (.int .i64 a.t.musts), (.slice (List.map encDir a.dirs) [] false)]), (.agg [(.str b.name), (.slice (List.map encParam b.params) [] false), (.str b.t.name), (.int .i64 b.t.lists), (.int .i64 b.t.musts), (.slice (List.map encDir b.dirs) [] false)])] [] fun r => (seineref6_SameFieldE r, [])
theorem seineref6_SameField_spec {a : GFieldDef} {b : GFieldDef} {r : Bool} (h : seineref6_SameField a b = some r) : O 12 [(.agg [(.str a.name), (.slice (List.map encParam a.params) [] false), (.str a.t.name), (.int .i64 a.t.lists), (.int .i64 a.t.musts), (.slice (List.map encDir a.dirs) [] false)]), (.agg [(.str b.name), (.slice (List.map encParam b.params) [] false), (.str b.t.name), (.int .i64 b.t.lists), (.int .i64 b.t.musts), (.slice (List.map encDir b.dirs) [] false)])] [] = some (seineref6_SameFieldE r, []) := tO_spec (enc := fun r => (seineref6_SameFieldE r, [])) h
def defs_CompositeE : Bool → PV := fun r => PV.bool r
theorem defs_CompositeEj (a b : Bool) (h : defs_CompositeE a = defs_CompositeE b) : a = b := Ev.bool_inj a b h
noncomputable def defs_Composite (s : GSchema) (name : Str) : Option Bool := tO O 13 [(.agg [(.slice (List.map encDef s.defs) [] false), (.str s.query), (.str s.mutation)]), (.str name)] [] fun r => (defs_CompositeE r, [])
theorem defs_Composite_spec {s : GSchema} {name : Str} {r : Bool} (h : defs_Composite s name = some r) : O 13 [(.agg [(.slice (List.map encDef s.defs) [] false), (.str s.query), (.str s.mutation)]), (.str name)] [] = some (defs_CompositeE r, []) := tO_spec (enc := fun r => (defs_CompositeE r, [])) h
def defs_MeetsE : Bool → PV := fun r => PV.bool r
theorem defs_MeetsEj (a b : Bool) (h : defs_MeetsE a = defs_MeetsE b) : a = b := Ev.bool_inj a b h
noncomputable def defs_Meets (s : GSchema) (a : Str) (b : Str) : Option Bool := tO O 14 [(.agg [(.slice (List.map encDef s.defs) [] false), (.str s.query), (.str s.mutation)]), (.str a), (.str b)] [] fun r => (defs_MeetsE r, [])
theorem defs_Meets_spec {s : GSchema} {a : Str} {b : Str} {r : Bool} (h : defs_Meets s a b = some r) : O 14 [(.agg [(.slice (List.map encDef s.defs) [] false), (.str s.query), (.str s.mutation)]), (.str a), (.str b)] [] = some (defs_MeetsE r, []) := tO_spec (enc := fun r => (defs_MeetsE r, [])) h
def seineref9_MeetsE : Bool → PV := fun r => PV.bool r
theorem seineref9_MeetsEj (a b : Bool) (h : seineref9_MeetsE a = seineref9_MeetsE b) : a = b := Ev.bool_inj a b h
noncomputable def seineref9_Meets (s : GSchema) (a : Str) (b : Str) : Option Bool := tO O 15 [(.agg [(.slice (List.map encDef s.defs) [] false), (.str s.query), (.str s.mutation)]), (.str a), (.str b)] [] fun r => (seineref9_MeetsE r, [])
theorem seineref9_Meets_spec {s : GSchema} {a : Str} {b : Str} {r : Bool} (h : seineref9_Meets s a b = some r) : O 15 [(.agg [(.slice (List.map encDef s.defs) [] false), (.str s.query), (.str s.mutation)]), (.str a), (.str b)] [] = some (seineref9_MeetsE r, []) := tO_spec (enc := fun r => (seineref9_MeetsE r, [])) h
def defs_PossibleE : (List Str) → PV := fun r => (encSl PV.str) r
theorem defs_PossibleEj (a b : List Str) (h : defs_PossibleE a = defs_PossibleE b) : a = b := (Ev.encSl_inj Ev.str_inj) a b h
noncomputable def defs_Possible (s : GSchema) (name : Str) : Option (List Str) := tO O 16 [(.agg [(.slice (List.map encDef s.defs) [] false), (.str s.query), (.str s.mutation)]), (.str name)] [] fun r => (defs_PossibleE r, [])
theorem defs_Possible_spec {s : GSchema} {name : Str} {r : List Str} (h : defs_Possible s name = some r) : O 16 [(.agg [(.slice (List.map encDef s.defs) [] false), (.str s.query), (.str s.mutation)]), (.str name)] [] = some (defs_PossibleE r, []) := tO_spec (enc := fun r => (defs_PossibleE r, [])) h
def defs_FindE : (GDef × Bool) → PV := fun r => .tuple [encDef r.1, PV.bool r.2]
theorem defs_FindEj (a b : GDef × Bool) (h : defs_FindE a = defs_FindE b) : a = b := by
  simp only [defs_FindE, PV.tuple.injEq, List.cons.injEq, and_true] at h
  exact Prod.ext (inj_GDef _ _ h.1) (Ev.bool_inj _ _ h.2)
noncomputable def defs_Find (s : GSchema) (name : Str) : Option (GDef × Bool) := tO O 17 [(.agg [(.slice (List.map encDef s.defs) [] false), (.str s.query), (.str s.mutation)]), (.str name)] [] fun r => (defs_FindE r, [])
theorem defs_Find_spec {s : GSchema} {name : Str} {r : GDef × Bool} (h : defs_Find s name = some r) : O 17 [(.agg [(.slice (List.map encDef s.defs) [] false), (.str s.query), (.str s.mutation)]), (.str name)] [] = some (defs_FindE r, []) := tO_spec (enc := fun r => (defs_FindE r, [])) h
def seinekeep_SchemaE : GSchema → PV := fun r => encSchema r
theorem seinekeep_SchemaEj (a b : GSchema) (h : seinekeep_SchemaE a = seinekeep_SchemaE b) : a = b := inj_GSchema a b h
noncomputable def seinekeep_Schema (s : GSchema) : Option GSchema := tO O 18 [(.agg [(.slice (List.map encDef s.defs) [] false), (.str s.query), (.str s.mutation)])] [] fun r => (seinekeep_SchemaE r, [])
theorem seinekeep_Schema_spec {s : GSchema} {r : GSchema} (h : seinekeep_Schema s = some r) : O 18 [(.agg [(.slice (List.map encDef s.defs) [] false), (.str s.query), (.str s.mutation)])] [] = some (seinekeep_SchemaE r, []) := tO_spec (enc := fun r => (seinekeep_SchemaE r, [])) h
def seineref9_FindE : (GDef × Bool) → PV := fun r => .tuple [encDef r.1, PV.bool r.2]
theorem seineref9_FindEj (a b : GDef × Bool) (h : seineref9_FindE a = seineref9_FindE b) : a = b := by
  simp only [seineref9_FindE, PV.tuple.injEq, List.cons.injEq, and_true] at h
  exact Prod.ext (inj_GDef _ _ h.1) (Ev.bool_inj _ _ h.2)
noncomputable def seineref9_Find (s : GSchema) (name : Str) : Option (GDef × Bool) := tO O 19 [(.agg [(.slice (List.map encDef s.defs) [] false), (.str s.query), (.str s.mutation)]), (.str name)] [] fun r => (seineref9_FindE r, [])
theorem seineref9_Find_spec {s : GSchema} {name : Str} {r : GDef × Bool} (h : seineref9_Find s name = some r) : O 19 [(.agg [(.slice (List.map encDef s.defs) [] false), (.str s.query), (.str s.mutation)]), (.str name)] [] = some (seineref9_FindE r, []) := tO_spec (enc := fun r => (seineref9_FindE r, [])) h
def seineref6_SameDefE : Bool → PV := fun r => PV.bool r
theorem seineref6_SameDefEj (a b : Bool) (h : seineref6_SameDefE a = seineref6_SameDefE b) : a = b := Ev.bool_inj a b h
noncomputable def seineref6_SameDef (a : GDef) (b : GDef) : Option Bool := tO O 20 [(.agg [(.int .i64 a.kind), (.str a.name), (.slice (List.map PV.str a.faces) [] false), (.slice (List.map encFieldDef a.fields) [] false), (.slice (List.map PV.str a.parts) [] false), (.slice (List.map encParam a.params) [] false)]), (.agg [(.int .i64 b.kind), (.str b.name), (.slice (List.map PV.str b.faces) [] false), (.slice (List.map encFieldDef b.fields) [] false), (.slice (List.map PV.str b.parts) [] false), (.slice (List.map encParam b.params) [] false)])] [] fun r => (seineref6_SameDefE r, [])
theorem seineref6_SameDef_spec {a : GDef} {b : GDef} {r : Bool} (h : seineref6_SameDef a b = some r) : O 20 [(.agg [(.int .i64 a.kind), (.str a.name), (.slice (List.map PV.str a.faces) [] false), (.slice (List.map encFieldDef a.fields) [] false), (.slice (List.map PV.str a.parts) [] false), (.slice (List.map encParam a.params) [] false)]), (.agg [(.int .i64 b.kind), (.str b.name), (.slice (List.map PV.str b.faces) [] false), (.slice (List.map encFieldDef b.fields) [] false), (.slice (List.map PV.str b.parts) [] false), (.slice (List.map encParam b.params) [] false)])] [] = some (seineref6_SameDefE r, []) := tO_spec (enc := fun r => (seineref6_SameDefE r, [])) h
def defs_LeafE : Bool → PV := fun r => PV.bool r
theorem defs_LeafEj (a b : Bool) (h : defs_LeafE a = defs_LeafE b) : a = b := Ev.bool_inj a b h
noncomputable def defs_Leaf (s : GSchema) (name : Str) : Option Bool := tO O 21 [(.agg [(.slice (List.map encDef s.defs) [] false), (.str s.query), (.str s.mutation)]), (.str name)] [] fun r => (defs_LeafE r, [])
theorem defs_Leaf_spec {s : GSchema} {name : Str} {r : Bool} (h : defs_Leaf s name = some r) : O 21 [(.agg [(.slice (List.map encDef s.defs) [] false), (.str s.query), (.str s.mutation)]), (.str name)] [] = some (defs_LeafE r, []) := tO_spec (enc := fun r => (defs_LeafE r, [])) h
def seineref9_LeafE : Bool → PV := fun r => PV.bool r
theorem seineref9_LeafEj (a b : Bool) (h : seineref9_LeafE a = seineref9_LeafE b) : a = b := Ev.bool_inj a b h
noncomputable def seineref9_Leaf (s : GSchema) (name : Str) : Option Bool := tO O 22 [(.agg [(.slice (List.map encDef s.defs) [] false), (.str s.query), (.str s.mutation)]), (.str name)] [] fun r => (seineref9_LeafE r, [])
theorem seineref9_Leaf_spec {s : GSchema} {name : Str} {r : Bool} (h : seineref9_Leaf s name = some r) : O 22 [(.agg [(.slice (List.map encDef s.defs) [] false), (.str s.query), (.str s.mutation)]), (.str name)] [] = some (seineref9_LeafE r, []) := tO_spec (enc := fun r => (seineref9_LeafE r, [])) h
def seineref9_CompositeE : Bool → PV := fun r => PV.bool r
theorem seineref9_CompositeEj (a b : Bool) (h : seineref9_CompositeE a = seineref9_CompositeE b) : a = b := Ev.bool_inj a b h
noncomputable def seineref9_Composite (s : GSchema) (name : Str) : Option Bool := tO O 23 [(.agg [(.slice (List.map encDef s.defs) [] false), (.str s.query), (.str s.mutation)]), (.str name)] [] fun r => (seineref9_CompositeE r, [])
theorem seineref9_Composite_spec {s : GSchema} {name : Str} {r : Bool} (h : seineref9_Composite s name = some r) : O 23 [(.agg [(.slice (List.map encDef s.defs) [] false), (.str s.query), (.str s.mutation)]), (.str name)] [] = some (seineref9_CompositeE r, []) := tO_spec (enc := fun r => (seineref9_CompositeE r, [])) h
def defs_EntryE : Bool → PV := fun r => PV.bool r
theorem defs_EntryEj (a b : Bool) (h : defs_EntryE a = defs_EntryE b) : a = b := Ev.bool_inj a b h
noncomputable def defs_Entry (s : GSchema) (name : Str) : Option Bool := tO O 24 [(.agg [(.slice (List.map encDef s.defs) [] false), (.str s.query), (.str s.mutation)]), (.str name)] [] fun r => (defs_EntryE r, [])
theorem defs_Entry_spec {s : GSchema} {name : Str} {r : Bool} (h : defs_Entry s name = some r) : O 24 [(.agg [(.slice (List.map encDef s.defs) [] false), (.str s.query), (.str s.mutation)]), (.str name)] [] = some (defs_EntryE r, []) := tO_spec (enc := fun r => (defs_EntryE r, [])) h
def seineref9_EntryE : Bool → PV := fun r => PV.bool r
theorem seineref9_EntryEj (a b : Bool) (h : seineref9_EntryE a = seineref9_EntryE b) : a = b := Ev.bool_inj a b h
noncomputable def seineref9_Entry (s : GSchema) (name : Str) : Option Bool := tO O 25 [(.agg [(.slice (List.map encDef s.defs) [] false), (.str s.query), (.str s.mutation)]), (.str name)] [] fun r => (seineref9_EntryE r, [])
theorem seineref9_Entry_spec {s : GSchema} {name : Str} {r : Bool} (h : seineref9_Entry s name = some r) : O 25 [(.agg [(.slice (List.map encDef s.defs) [] false), (.str s.query), (.str s.mutation)]), (.str name)] [] = some (seineref9_EntryE r, []) := tO_spec (enc := fun r => (seineref9_EntryE r, [])) h
def seinekeep_SameTextsE : Bool → PV := fun r => PV.bool r
theorem seinekeep_SameTextsEj (a b : Bool) (h : seinekeep_SameTextsE a = seinekeep_SameTextsE b) : a = b := Ev.bool_inj a b h
noncomputable def seinekeep_SameTexts (a : List Str) (b : List Str) : Option Bool := tO O 26 [(.slice (List.map PV.str a) [] false), (.slice (List.map PV.str b) [] false)] [] fun r => (seinekeep_SameTextsE r, [])
theorem seinekeep_SameTexts_spec {a : List Str} {b : List Str} {r : Bool} (h : seinekeep_SameTexts a b = some r) : O 26 [(.slice (List.map PV.str a) [] false), (.slice (List.map PV.str b) [] false)] [] = some (seinekeep_SameTextsE r, []) := tO_spec (enc := fun r => (seinekeep_SameTextsE r, [])) h
def seineref9_PossibleE : (List Str) → PV := fun r => (encSl PV.str) r
theorem seineref9_PossibleEj (a b : List Str) (h : seineref9_PossibleE a = seineref9_PossibleE b) : a = b := (Ev.encSl_inj Ev.str_inj) a b h
noncomputable def seineref9_Possible (s : GSchema) (name : Str) : Option (List Str) := tO O 27 [(.agg [(.slice (List.map encDef s.defs) [] false), (.str s.query), (.str s.mutation)]), (.str name)] [] fun r => (seineref9_PossibleE r, [])
theorem seineref9_Possible_spec {s : GSchema} {name : Str} {r : List Str} (h : seineref9_Possible s name = some r) : O 27 [(.agg [(.slice (List.map encDef s.defs) [] false), (.str s.query), (.str s.mutation)]), (.str name)] [] = some (seineref9_PossibleE r, []) := tO_spec (enc := fun r => (seineref9_PossibleE r, [])) h
def seineref6_SameSchemaE : Bool → PV := fun r => PV.bool r
theorem seineref6_SameSchemaEj (a b : Bool) (h : seineref6_SameSchemaE a = seineref6_SameSchemaE b) : a = b := Ev.bool_inj a b h
noncomputable def seineref6_SameSchema (a : GSchema) (b : GSchema) : Option Bool := tO O 28 [(.agg [(.slice (List.map encDef a.defs) [] false), (.str a.query), (.str a.mutation)]), (.agg [(.slice (List.map encDef b.defs) [] false), (.str b.query), (.str b.mutation)])] [] fun r => (seineref6_SameSchemaE r, [])
theorem seineref6_SameSchema_spec {a : GSchema} {b : GSchema} {r : Bool} (h : seineref6_SameSchema a b = some r) : O 28 [(.agg [(.slice (List.map encDef a.defs) [] false), (.str a.query), (.str a.mutation)]), (.agg [(.slice (List.map encDef b.defs) [] false), (.str b.query), (.str b.mutation)])] [] = some (seineref6_SameSchemaE r, []) := tO_spec (enc := fun r => (seineref6_SameSchemaE r, [])) h
def seinelaw8_lightTextsE : Int → PV := fun r => (PV.int .i64) r
theorem seinelaw8_lightTextsEj (a b : Int) (h : seinelaw8_lightTextsE a = seinelaw8_lightTextsE b) : a = b := (Ev.int_inj _) a b h
noncomputable def seinelaw8_lightTexts (l0 : List Str) : Option Int := tO O 29 [(.slice (List.map PV.str l0) [] false)] [] fun r => (seinelaw8_lightTextsE r, [])
theorem seinelaw8_lightTexts_spec {l0 : List Str} {r : Int} (h : seinelaw8_lightTexts l0 = some r) : O 29 [(.slice (List.map PV.str l0) [] false)] [] = some (seinelaw8_lightTextsE r, []) := tO_spec (enc := fun r => (seinelaw8_lightTextsE r, [])) h
def seinelaw8_lightParamsE : Int → PV := fun r => (PV.int .i64) r
theorem seinelaw8_lightParamsEj (a b : Int) (h : seinelaw8_lightParamsE a = seinelaw8_lightParamsE b) : a = b := (Ev.int_inj _) a b h
noncomputable def seinelaw8_lightParams (l0 : List GParam) : Option Int := tO O 30 [(.slice (List.map encParam l0) [] false)] [] fun r => (seinelaw8_lightParamsE r, [])
theorem seinelaw8_lightParams_spec {l0 : List GParam} {r : Int} (h : seinelaw8_lightParams l0 = some r) : O 30 [(.slice (List.map encParam l0) [] false)] [] = some (seinelaw8_lightParamsE r, []) := tO_spec (enc := fun r => (seinelaw8_lightParamsE r, [])) h
def seinelaw8_lightDirsE : Int → PV := fun r => (PV.int .i64) r
theorem seinelaw8_lightDirsEj (a b : Int) (h : seinelaw8_lightDirsE a = seinelaw8_lightDirsE b) : a = b := (Ev.int_inj _) a b h
noncomputable def seinelaw8_lightDirs (l0 : List GDir) : Option Int := tO O 31 [(.slice (List.map encDir l0) [] false)] [] fun r => (seinelaw8_lightDirsE r, [])
theorem seinelaw8_lightDirs_spec {l0 : List GDir} {r : Int} (h : seinelaw8_lightDirs l0 = some r) : O 31 [(.slice (List.map encDir l0) [] false)] [] = some (seinelaw8_lightDirsE r, []) := tO_spec (enc := fun r => (seinelaw8_lightDirsE r, [])) h
def seineref6_SameParamsE : Bool → PV := fun r => PV.bool r
theorem seineref6_SameParamsEj (a b : Bool) (h : seineref6_SameParamsE a = seineref6_SameParamsE b) : a = b := Ev.bool_inj a b h
noncomputable def seineref6_SameParams (a : List GParam) (b : List GParam) : Option Bool := tO O 34 [(.slice (List.map encParam a) [] false), (.slice (List.map encParam b) [] false)] [] fun r => (seineref6_SameParamsE r, [])
theorem seineref6_SameParams_spec {a : List GParam} {b : List GParam} {r : Bool} (h : seineref6_SameParams a b = some r) : O 34 [(.slice (List.map encParam a) [] false), (.slice (List.map encParam b) [] false)] [] = some (seineref6_SameParamsE r, []) := tO_spec (enc := fun r => (seineref6_SameParamsE r, [])) h
def seineref6_SameDirsE : Bool → PV := fun r => PV.bool r
theorem seineref6_SameDirsEj (a b : Bool) (h : seineref6_SameDirsE a = seineref6_SameDirsE b) : a = b := Ev.bool_inj a b h
noncomputable def seineref6_SameDirs (a : List GDir) (b : List GDir) : Option Bool := tO O 35 [(.slice (List.map encDir a) [] false), (.slice (List.map encDir b) [] false)] [] fun r => (seineref6_SameDirsE r, [])
theorem seineref6_SameDirs_spec {a : List GDir} {b : List GDir} {r : Bool} (h : seineref6_SameDirs a b = some r) : O 35 [(.slice (List.map encDir a) [] false), (.slice (List.map encDir b) [] false)] [] = some (seineref6_SameDirsE r, []) := tO_spec (enc := fun r => (seineref6_SameDirsE r, [])) h
def defs_KindE : Bool → PV := fun r => PV.bool r
theorem defs_KindEj (a b : Bool) (h : defs_KindE a = defs_KindE b) : a = b := Ev.bool_inj a b h
noncomputable def defs_Kind (s : GSchema) (name : Str) (kinds : List Int) : Option Bool := tO O 36 [(.agg [(.slice (List.map encDef s.defs) [] false), (.str s.query), (.str s.mutation)]), (.str name), (.slice (List.map (PV.int .i64) kinds) [] false)] [] fun r => (defs_KindE r, [])
theorem defs_Kind_spec {s : GSchema} {name : Str} {kinds : List Int} {r : Bool} (h : defs_Kind s name kinds = some r) : O 36 [(.agg [(.slice (List.map encDef s.defs) [] false), (.str s.query), (.str s.mutation)]), (.str name), (.slice (List.map (PV.int .i64) kinds) [] false)] [] = some (defs_KindE r, []) := tO_spec (enc := fun r => (defs_KindE r, [])) h
def seineref1_HasE : Bool → PV := fun r => PV.bool r
theorem seineref1_HasEj (a b : Bool) (h : seineref1_HasE a = seineref1_HasE b) : a = b := Ev.bool_inj a b h
noncomputable def seineref1_Has (l0 : List Str) (s : Str) : Option Bool := tO O 37 [(.slice (List.map PV.str l0) [] false), (.str s)] [] fun r => (seineref1_HasE r, [])
theorem seineref1_Has_spec {l0 : List Str} {s : Str} {r : Bool} (h : seineref1_Has l0 s = some r) : O 37 [(.slice (List.map PV.str l0) [] false), (.str s)] [] = some (seineref1_HasE r, []) := tO_spec (enc := fun r => (seineref1_HasE r, [])) h
def slices_Contains_string_stringE : Bool → PV := fun r => PV.bool r
theorem slices_Contains_string_stringEj (a b : Bool) (h : slices_Contains_string_stringE a = slices_Contains_string_stringE b) : a = b := Ev.bool_inj a b h
noncomputable def slices_Contains_string_string (s : List Str) (v0 : Str) : Option Bool := tO O 38 [(.slice (List.map PV.str s) [] false), (.str v0)] [] fun r => (slices_Contains_string_stringE r, [])
theorem slices_Contains_string_string_spec {s : List Str} {v0 : Str} {r : Bool} (h : slices_Contains_string_string s v0 = some r) : O 38 [(.slice (List.map PV.str s) [] false), (.str v0)] [] = some (slices_Contains_string_stringE r, []) := tO_spec (enc := fun r => (slices_Contains_string_stringE r, [])) h
def defs_addE : (List Str) → PV := fun r => .slice (List.map PV.str r) [] true
theorem defs_addEj (a b : List Str) (h : defs_addE a = defs_addE b) : a = b := Ev.encSlO_inj Ev.str_inj a b h
noncomputable def defs_add (l0 : List Str) (name : Str) : Option (List Str) := tO O 39 [(.slice (List.map PV.str l0) [] true), (.str name)] [] fun r => (defs_addE r, [])
theorem defs_add_spec {l0 : List Str} {name : Str} {r : List Str} (h : defs_add l0 name = some r) : O 39 [(.slice (List.map PV.str l0) [] true), (.str name)] [] = some (defs_addE r, []) := tO_spec (enc := fun r => (defs_addE r, [])) h
def defs_scalarE : Bool → PV := fun r => PV.bool r
theorem defs_scalarEj (a b : Bool) (h : defs_scalarE a = defs_scalarE b) : a = b := Ev.bool_inj a b h
noncomputable def defs_scalar (name : Str) : Option Bool := tO O 40 [(.str name)] [] fun r => (defs_scalarE r, [])
theorem defs_scalar_spec {name : Str} {r : Bool} (h : defs_scalar name = some r) : O 40 [(.str name)] [] = some (defs_scalarE r, []) := tO_spec (enc := fun r => (defs_scalarE r, [])) h
def seinekeep_ParamsE : (List GParam) → PV := fun r => (encSl encParam) r
theorem seinekeep_ParamsEj (a b : List GParam) (h : seinekeep_ParamsE a = seinekeep_ParamsE b) : a = b := (Ev.encSl_inj inj_GParam) a b h
noncomputable def seinekeep_Params (l0 : List GParam) : Option (List GParam) := tO O 41 [(.slice (List.map encParam l0) [] false)] [] fun r => (seinekeep_ParamsE r, [])
theorem seinekeep_Params_spec {l0 : List GParam} {r : List GParam} (h : seinekeep_Params l0 = some r) : O 41 [(.slice (List.map encParam l0) [] false)] [] = some (seinekeep_ParamsE r, []) := tO_spec (enc := fun r => (seinekeep_ParamsE r, [])) h
def seinekeep_DirsE : (List GDir) → PV := fun r => (encSl encDir) r
theorem seinekeep_DirsEj (a b : List GDir) (h : seinekeep_DirsE a = seinekeep_DirsE b) : a = b := (Ev.encSl_inj inj_GDir) a b h
noncomputable def seinekeep_Dirs (l0 : List GDir) : Option (List GDir) := tO O 42 [(.slice (List.map encDir l0) [] false)] [] fun r => (seinekeep_DirsE r, [])
theorem seinekeep_Dirs_spec {l0 : List GDir} {r : List GDir} (h : seinekeep_Dirs l0 = some r) : O 42 [(.slice (List.map encDir l0) [] false)] [] = some (seinekeep_DirsE r, []) := tO_spec (enc := fun r => (seinekeep_DirsE r, [])) h
def seineref9_scalarE : Bool → PV := fun r => PV.bool r
theorem seineref9_scalarEj (a b : Bool) (h : seineref9_scalarE a = seineref9_scalarE b) : a = b := Ev.bool_inj a b h
noncomputable def seineref9_scalar (name : Str) : Option Bool := tO O 43 [(.str name)] [] fun r => (seineref9_scalarE r, [])
theorem seineref9_scalar_spec {name : Str} {r : Bool} (h : seineref9_scalar name = some r) : O 43 [(.str name)] [] = some (seineref9_scalarE r, []) := tO_spec (enc := fun r => (seineref9_scalarE r, [])) h
def seineref6_TextsE : Bool → PV := fun r => PV.bool r
theorem seineref6_TextsEj (a b : Bool) (h : seineref6_TextsE a = seineref6_TextsE b) : a = b := Ev.bool_inj a b h
noncomputable def seineref6_Texts (a : List Str) (b : List Str) : Option Bool := tO O 44 [(.slice (List.map PV.str a) [] false), (.slice (List.map PV.str b) [] false)] [] fun r => (seineref6_TextsE r, [])
theorem seineref6_Texts_spec {a : List Str} {b : List Str} {r : Bool} (h : seineref6_Texts a b = some r) : O 44 [(.slice (List.map PV.str a) [] false), (.slice (List.map PV.str b) [] false)] [] = some (seineref6_TextsE r, []) := tO_spec (enc := fun r => (seineref6_TextsE r, [])) h
def seineref9_isE : Bool → PV := fun r => PV.bool r
theorem seineref9_isEj (a b : Bool) (h : seineref9_isE a = seineref9_isE b) : a = b := Ev.bool_inj a b h
noncomputable def seineref9_is (s : GSchema) (name : Str) (a : Int) (b : Int) (c : Int) : Option Bool := tO O 45 [(.agg [(.slice (List.map encDef s.defs) [] false), (.str s.query), (.str s.mutation)]), (.str name), (.int .i64 a), (.int .i64 b), (.int .i64 c)] [] fun r => (seineref9_isE r, [])
theorem seineref9_is_spec {s : GSchema} {name : Str} {a : Int} {b : Int} {c : Int} {r : Bool} (h : seineref9_is s name a b c = some r) : O 45 [(.agg [(.slice (List.map encDef s.defs) [] false), (.str s.query), (.str s.mutation)]), (.str name), (.int .i64 a), (.int .i64 b), (.int .i64 c)] [] = some (seineref9_isE r, []) := tO_spec (enc := fun r => (seineref9_isE r, [])) h
def seineref9_ObjectE : Bool → PV := fun r => PV.bool r
theorem seineref9_ObjectEj (a b : Bool) (h : seineref9_ObjectE a = seineref9_ObjectE b) : a = b := Ev.bool_inj a b h
noncomputable def seineref9_Object (s : GSchema) (name : Str) : Option Bool := tO O 46 [(.agg [(.slice (List.map encDef s.defs) [] false), (.str s.query), (.str s.mutation)]), (.str name)] [] fun r => (seineref9_ObjectE r, [])
theorem seineref9_Object_spec {s : GSchema} {name : Str} {r : Bool} (h : seineref9_Object s name = some r) : O 46 [(.agg [(.slice (List.map encDef s.defs) [] false), (.str s.query), (.str s.mutation)]), (.str name)] [] = some (seineref9_ObjectE r, []) := tO_spec (enc := fun r => (seineref9_ObjectE r, [])) h
def seinekeep_SizeE : Int → PV := fun r => (PV.int .i64) r
theorem seinekeep_SizeEj (a b : Int) (h : seinekeep_SizeE a = seinekeep_SizeE b) : a = b := (Ev.int_inj _) a b h
noncomputable def seinekeep_Size (v0 : GValue) : Option Int := tO O 47 [(.agg [(.int .i64 v0.kind), (.int .i64 v0.n), (.str v0.s), (.slice (List.map encValue v0.l) [] false), (.slice (List.map encMember v0.m) [] false)])] [] fun r => (seinekeep_SizeE r, [])
theorem seinekeep_Size_spec {v0 : GValue} {r : Int} (h : seinekeep_Size v0 = some r) : O 47 [(.agg [(.int .i64 v0.kind), (.int .i64 v0.n), (.str v0.s), (.slice (List.map encValue v0.l) [] false), (.slice (List.map encMember v0.m) [] false)])] [] = some (seinekeep_SizeE r, []) := tO_spec (enc := fun r => (seinekeep_SizeE r, [])) h
def seineref1_SameE : Bool → PV := fun r => PV.bool r
theorem seineref1_SameEj (a b : Bool) (h : seineref1_SameE a = seineref1_SameE b) : a = b := Ev.bool_inj a b h
noncomputable def seineref1_Same (a : GValue) (b : GValue) : Option Bool := tO O 48 [(.agg [(.int .i64 a.kind), (.int .i64 a.n), (.str a.s), (.slice (List.map encValue a.l) [] false), (.slice (List.map encMember a.m) [] false)]), (.agg [(.int .i64 b.kind), (.int .i64 b.n), (.str b.s), (.slice (List.map encValue b.l) [] false), (.slice (List.map encMember b.m) [] false)])] [] fun r => (seineref1_SameE r, [])
theorem seineref1_Same_spec {a : GValue} {b : GValue} {r : Bool} (h : seineref1_Same a b = some r) : O 48 [(.agg [(.int .i64 a.kind), (.int .i64 a.n), (.str a.s), (.slice (List.map encValue a.l) [] false), (.slice (List.map encMember a.m) [] false)]), (.agg [(.int .i64 b.kind), (.int .i64 b.n), (.str b.s), (.slice (List.map encValue b.l) [] false), (.slice (List.map encMember b.m) [] false)])] [] = some (seineref1_SameE r, []) := tO_spec (enc := fun r => (seineref1_SameE r, [])) h
def seineref1_MembersE : Bool → PV := fun r => PV.bool r
theorem seineref1_MembersEj (a b : Bool) (h : seineref1_MembersE a = seineref1_MembersE b) : a = b := Ev.bool_inj a b h
noncomputable def seineref1_Members (a : List GMember) (b : List GMember) : Option Bool := tO O 49 [(.slice (List.map encMember a) [] false), (.slice (List.map encMember b) [] false)] [] fun r => (seineref1_MembersE r, [])
theorem seineref1_Members_spec {a : List GMember} {b : List GMember} {r : Bool} (h : seineref1_Members a b = some r) : O 49 [(.slice (List.map encMember a) [] false), (.slice (List.map encMember b) [] false)] [] = some (seineref1_MembersE r, []) := tO_spec (enc := fun r => (seineref1_MembersE r, [])) h
def slices_Contains_int_intE : Bool → PV := fun r => PV.bool r
theorem slices_Contains_int_intEj (a b : Bool) (h : slices_Contains_int_intE a = slices_Contains_int_intE b) : a = b := Ev.bool_inj a b h
noncomputable def slices_Contains_int_int (s : List Int) (v0 : Int) : Option Bool := tO O 50 [(.slice (List.map (PV.int .i64) s) [] false), (.int .i64 v0)] [] fun r => (slices_Contains_int_intE r, [])
theorem slices_Contains_int_int_spec {s : List Int} {v0 : Int} {r : Bool} (h : slices_Contains_int_int s v0 = some r) : O 50 [(.slice (List.map (PV.int .i64) s) [] false), (.int .i64 v0)] [] = some (slices_Contains_int_intE r, []) := tO_spec (enc := fun r => (slices_Contains_int_intE r, [])) h
def slices_Index_string_stringE : Int → PV := fun r => (PV.int .i64) r
theorem slices_Index_string_stringEj (a b : Int) (h : slices_Index_string_stringE a = slices_Index_string_stringE b) : a = b := (Ev.int_inj _) a b h
noncomputable def slices_Index_string_string (s : List Str) (v0 : Str) : Option Int := tO O 51 [(.slice (List.map PV.str s) [] false), (.str v0)] [] fun r => (slices_Index_string_stringE r, [])
theorem slices_Index_string_string_spec {s : List Str} {v0 : Str} {r : Int} (h : slices_Index_string_string s v0 = some r) : O 51 [(.slice (List.map PV.str s) [] false), (.str v0)] [] = some (slices_Index_string_stringE r, []) := tO_spec (enc := fun r => (slices_Index_string_stringE r, [])) h
def seinekeep_MembersE : (List GMember) → PV := fun r => (encSl encMember) r
theorem seinekeep_MembersEj (a b : List GMember) (h : seinekeep_MembersE a = seinekeep_MembersE b) : a = b := (Ev.encSl_inj inj_GMember) a b h
noncomputable def seinekeep_Members (l0 : List GMember) : Option (List GMember) := tO O 52 [(.slice (List.map encMember l0) [] false)] [] fun r => (seinekeep_MembersE r, [])
theorem seinekeep_Members_spec {l0 : List GMember} {r : List GMember} (h : seinekeep_Members l0 = some r) : O 52 [(.slice (List.map encMember l0) [] false)] [] = some (seinekeep_MembersE r, []) := tO_spec (enc := fun r => (seinekeep_MembersE r, [])) h
def slices_Index_int_intE : Int → PV := fun r => (PV.int .i64) r
theorem slices_Index_int_intEj (a b : Int) (h : slices_Index_int_intE a = slices_Index_int_intE b) : a = b := (Ev.int_inj _) a b h
noncomputable def slices_Index_int_int (s : List Int) (v0 : Int) : Option Int := tO O 53 [(.slice (List.map (PV.int .i64) s) [] false), (.int .i64 v0)] [] fun r => (slices_Index_int_intE r, [])
theorem slices_Index_int_int_spec {s : List Int} {v0 : Int} {r : Int} (h : slices_Index_int_int s v0 = some r) : O 53 [(.slice (List.map (PV.int .i64) s) [] false), (.int .i64 v0)] [] = some (slices_Index_int_intE r, []) := tO_spec (enc := fun r => (slices_Index_int_intE r, [])) h
def seinekeep_ValueE : GValue → PV := fun r => encValue r
theorem seinekeep_ValueEj (a b : GValue) (h : seinekeep_ValueE a = seinekeep_ValueE b) : a = b := inj_GValue a b h
noncomputable def seinekeep_Value (v0 : GValue) : Option GValue := tO O 54 [(.agg [(.int .i64 v0.kind), (.int .i64 v0.n), (.str v0.s), (.slice (List.map encValue v0.l) [] false), (.slice (List.map encMember v0.m) [] false)])] [] fun r => (seinekeep_ValueE r, [])
theorem seinekeep_Value_spec {v0 : GValue} {r : GValue} (h : seinekeep_Value v0 = some r) : O 54 [(.agg [(.int .i64 v0.kind), (.int .i64 v0.n), (.str v0.s), (.slice (List.map encValue v0.l) [] false), (.slice (List.map encMember v0.m) [] false)])] [] = some (seinekeep_ValueE r, []) := tO_spec (enc := fun r => (seinekeep_ValueE r, [])) h
end Go.Proofs.Ytigiafabnidggaa

/- Printed by frames.py: the types' readings. -/
set_option linter.unusedVariables false
set_option linter.unusedSimpArgs false
open Go Go.Ev Go.Ev.PV
namespace Go.Proofs.Ytigiafabnidggaa
def bkType (x : GType) : Nat := (bkStr x.name + (bk1 x.lists + (bk1 x.musts + (0)))) + 1
def gdType (x : GType) : Prop := gd1 x.name ∧ ((gdI .i64) x.lists ∧ ((gdI .i64) x.musts ∧ (True)))
theorem bkType_eq (x : GType) : bkType x = (bkStr x.name + (bk1 x.lists + (bk1 x.musts + (0)))) + 1 := rfl
theorem gdType_eq (x : GType) : gdType x = (gd1 x.name ∧ ((gdI .i64) x.lists ∧ ((gdI .i64) x.musts ∧ (True)))) := rfl
mutual
def bkValue : GValue → Nat
  | ⟨x0, x1, x2, x3, x4⟩ => (bk1 x0 + (bk1 x1 + (bkStr x2 + ((bkValues x3 + 1) + ((bkMembers x4 + 1) + (0)))))) + 1
def bkMember : GMember → Nat
  | ⟨x0, x1⟩ => (bkStr x0 + (bkValue x1 + (0))) + 1
def bkValues : List GValue → Nat
  | [] => 0
  | x :: l => bkValue x + bkValues l
def bkMembers : List GMember → Nat
  | [] => 0
  | x :: l => bkMember x + bkMembers l
end
mutual
def gdValue : GValue → Prop
  | ⟨x0, x1, x2, x3, x4⟩ => (gdI .i64) x0 ∧ ((gdI .i64) x1 ∧ (gd1 x2 ∧ (gdValues x3 ∧ (gdMembers x4 ∧ (True)))))
def gdMember : GMember → Prop
  | ⟨x0, x1⟩ => gd1 x0 ∧ (gdValue x1 ∧ (True))
def gdValues : List GValue → Prop
  | [] => True
  | x :: l => gdValue x ∧ gdValues l
def gdMembers : List GMember → Prop
  | [] => True
  | x :: l => gdMember x ∧ gdMembers l
end
theorem bkValues_eq : ∀ (l : List GValue), bkValues l = sumL bkValue l
  | [] => by simp only [bkValues, sumL]
  | x :: l => by simp only [bkValues, sumL, bkValues_eq l]
theorem gdValues_eq : ∀ (l : List GValue), gdValues l = gdSl gdValue l
  | [] => by simp [gdValues, gdSl]
  | x :: l => by simp [gdValues, gdSl, gdValues_eq l]
theorem bkMembers_eq : ∀ (l : List GMember), bkMembers l = sumL bkMember l
  | [] => by simp only [bkMembers, sumL]
  | x :: l => by simp only [bkMembers, sumL, bkMembers_eq l]
theorem gdMembers_eq : ∀ (l : List GMember), gdMembers l = gdSl gdMember l
  | [] => by simp [gdMembers, gdSl]
  | x :: l => by simp [gdMembers, gdSl, gdMembers_eq l]
theorem bkValue_eq (x : GValue) : bkValue x = (bk1 x.kind + (bk1 x.n + (bkStr x.s + ((bkSl bkValue) x.l + ((bkSl bkMember) x.m + (0)))))) + 1 := by
  cases x; simp only [bkValue, bkSl, bkValues_eq, bkMembers_eq]
theorem gdValue_eq (x : GValue) : gdValue x = ((gdI .i64) x.kind ∧ ((gdI .i64) x.n ∧ (gd1 x.s ∧ ((gdSl gdValue) x.l ∧ ((gdSl gdMember) x.m ∧ (True)))))) := by
  cases x; simp only [gdValue, gdValues_eq, gdMembers_eq]
theorem bkMember_eq (x : GMember) : bkMember x = (bkStr x.name + (bkValue x.v + (0))) + 1 := by
  cases x; simp only [bkMember, bkSl, bkValues_eq, bkMembers_eq]
theorem gdMember_eq (x : GMember) : gdMember x = (gd1 x.name ∧ (gdValue x.v ∧ (True))) := by
  cases x; simp only [gdMember, gdValues_eq, gdMembers_eq]
def bkParam (x : GParam) : Nat := (bkStr x.name + (bkType x.t + (bk1 x.has + (bkValue x.default + (0))))) + 1
def gdParam (x : GParam) : Prop := gd1 x.name ∧ (gdType x.t ∧ (gd1 x.has ∧ (gdValue x.default ∧ (True))))
theorem bkParam_eq (x : GParam) : bkParam x = (bkStr x.name + (bkType x.t + (bk1 x.has + (bkValue x.default + (0))))) + 1 := rfl
theorem gdParam_eq (x : GParam) : gdParam x = (gd1 x.name ∧ (gdType x.t ∧ (gd1 x.has ∧ (gdValue x.default ∧ (True))))) := rfl
def bkDir (x : GDir) : Nat := (bkStr x.name + ((bkSl bkMember) x.args + (0))) + 1
def gdDir (x : GDir) : Prop := gd1 x.name ∧ ((gdSl gdMember) x.args ∧ (True))
theorem bkDir_eq (x : GDir) : bkDir x = (bkStr x.name + ((bkSl bkMember) x.args + (0))) + 1 := rfl
theorem gdDir_eq (x : GDir) : gdDir x = (gd1 x.name ∧ ((gdSl gdMember) x.args ∧ (True))) := rfl
def bkFieldDef (x : GFieldDef) : Nat := (bkStr x.name + ((bkSl bkParam) x.params + (bkType x.t + ((bkSl bkDir) x.dirs + (0))))) + 1
def gdFieldDef (x : GFieldDef) : Prop := gd1 x.name ∧ ((gdSl gdParam) x.params ∧ (gdType x.t ∧ ((gdSl gdDir) x.dirs ∧ (True))))
theorem bkFieldDef_eq (x : GFieldDef) : bkFieldDef x = (bkStr x.name + ((bkSl bkParam) x.params + (bkType x.t + ((bkSl bkDir) x.dirs + (0))))) + 1 := rfl
theorem gdFieldDef_eq (x : GFieldDef) : gdFieldDef x = (gd1 x.name ∧ ((gdSl gdParam) x.params ∧ (gdType x.t ∧ ((gdSl gdDir) x.dirs ∧ (True))))) := rfl
def bkDef (x : GDef) : Nat := (bk1 x.kind + (bkStr x.name + ((bkSl bkStr) x.faces + ((bkSl bkFieldDef) x.fields + ((bkSl bkStr) x.parts + ((bkSl bkParam) x.params + (0))))))) + 1
def gdDef (x : GDef) : Prop := (gdI .i64) x.kind ∧ (gd1 x.name ∧ ((gdSl gd1) x.faces ∧ ((gdSl gdFieldDef) x.fields ∧ ((gdSl gd1) x.parts ∧ ((gdSl gdParam) x.params ∧ (True))))))
theorem bkDef_eq (x : GDef) : bkDef x = (bk1 x.kind + (bkStr x.name + ((bkSl bkStr) x.faces + ((bkSl bkFieldDef) x.fields + ((bkSl bkStr) x.parts + ((bkSl bkParam) x.params + (0))))))) + 1 := rfl
theorem gdDef_eq (x : GDef) : gdDef x = ((gdI .i64) x.kind ∧ (gd1 x.name ∧ ((gdSl gd1) x.faces ∧ ((gdSl gdFieldDef) x.fields ∧ ((gdSl gd1) x.parts ∧ ((gdSl gdParam) x.params ∧ (True))))))) := rfl
def bkSchema (x : GSchema) : Nat := ((bkSl bkDef) x.defs + (bkStr x.query + (bkStr x.mutation + (0)))) + 1
def gdSchema (x : GSchema) : Prop := (gdSl gdDef) x.defs ∧ (gd1 x.query ∧ (gd1 x.mutation ∧ (True)))
theorem bkSchema_eq (x : GSchema) : bkSchema x = ((bkSl bkDef) x.defs + (bkStr x.query + (bkStr x.mutation + (0)))) + 1 := rfl
theorem gdSchema_eq (x : GSchema) : gdSchema x = ((gdSl gdDef) x.defs ∧ (gd1 x.query ∧ (gd1 x.mutation ∧ (True)))) := rfl
def TS : Nat → TypeId
  | 0 => 29
  | 1 => 66
  | 2 => 79
  | 3 => 68
  | 4 => 71
  | 5 => 32
  | 6 => 42
  | _ => 24
def BS : Nat → Ty
  | 0 => (.fcons .str (.fcons (.int .i64) (.fcons (.int .i64) .fnil)))
  | 1 => (.fcons (.int .i64) (.fcons (.int .i64) (.fcons .str (.fcons (.sl (.ext 1)) (.fcons (.sl (.ext 2)) .fnil)))))
  | 2 => (.fcons .str (.fcons (.ext 1) .fnil))
  | 3 => (.fcons .str (.fcons (.ext 0) (.fcons .bool (.fcons (.ext 1) .fnil))))
  | 4 => (.fcons .str (.fcons (.sl (.ext 2)) .fnil))
  | 5 => (.fcons .str (.fcons (.sl (.ext 3)) (.fcons (.ext 0) (.fcons (.sl (.ext 4)) .fnil))))
  | 6 => (.fcons (.int .i64) (.fcons .str (.fcons (.sl .str) (.fcons (.sl (.ext 5)) (.fcons (.sl .str) (.fcons (.sl (.ext 3)) .fnil))))))
  | _ => (.fcons (.sl (.ext 6)) (.fcons .str (.fcons .str .fnil)))
abbrev recType : RecTy := ⟨GType, encType, 3, bkType, gdType, fun x => wf_agg _ (encType_eq x) rfl rfl⟩
abbrev recValue : RecTy := ⟨GValue, encValue, 5, bkValue, gdValue, fun x => wf_agg _ (encValue_eq x) rfl rfl⟩
abbrev recMember : RecTy := ⟨GMember, encMember, 6, bkMember, gdMember, fun x => wf_agg _ (encMember_eq x) rfl rfl⟩
abbrev recParam : RecTy := ⟨GParam, encParam, 10, bkParam, gdParam, fun x => wf_agg _ (encParam_eq x) rfl rfl⟩
abbrev recDir : RecTy := ⟨GDir, encDir, 2, bkDir, gdDir, fun x => wf_agg _ (encDir_eq x) rfl rfl⟩
abbrev recFieldDef : RecTy := ⟨GFieldDef, encFieldDef, 6, bkFieldDef, gdFieldDef, fun x => wf_agg _ (encFieldDef_eq x) rfl rfl⟩
abbrev recDef : RecTy := ⟨GDef, encDef, 6, bkDef, gdDef, fun x => wf_agg _ (encDef_eq x) rfl rfl⟩
abbrev recSchema : RecTy := ⟨GSchema, encSchema, 3, bkSchema, gdSchema, fun x => wf_agg _ (encSchema_eq x) rfl rfl⟩
abbrev RS : REnv
  | 0 => recType
  | 1 => recValue
  | 2 => recMember
  | 3 => recParam
  | 4 => recDir
  | 5 => recFieldDef
  | 6 => recDef
  | _ => recSchema
theorem hty : ∀ i, ∃ F, Try.prog.underlying (TS i) = some (.struct F) ∧ Try.prog.cellsOf (TS i) = (BS i).size RS ∧ flds RS Try.prog (tyOk RS TS Try.prog 9) F.toList 0 (BS i) = true
  | 0 => ⟨_, Try.underlying29, by kernel_rfl, by kernel_rfl⟩
  | 1 => ⟨_, Try.underlying66, by kernel_rfl, by kernel_rfl⟩
  | 2 => ⟨_, Try.underlying79, by kernel_rfl, by kernel_rfl⟩
  | 3 => ⟨_, Try.underlying68, by kernel_rfl, by kernel_rfl⟩
  | 4 => ⟨_, Try.underlying71, by kernel_rfl, by kernel_rfl⟩
  | 5 => ⟨_, Try.underlying32, by kernel_rfl, by kernel_rfl⟩
  | 6 => ⟨_, Try.underlying42, by kernel_rfl, by kernel_rfl⟩
  | _ + 7 => ⟨_, Try.underlying24, by kernel_rfl, by kernel_rfl⟩
theorem cvType (x0 : Str) (x1 : Int) (x2 : Int) : encType ⟨x0, x1, x2⟩ = (PV.agg ((PV.str x0).cells ++ (PV.agg (((PV.int .i64) x1).cells ++ (PV.agg (((PV.int .i64) x2).cells ++ (PV.agg []).cells)).cells)).cells)) := by
  simp only [tys, cells, List.cons_append, List.nil_append]
theorem cvValue (x0 : Int) (x1 : Int) (x2 : Str) (x3 : List GValue) (x4 : List GMember) : encValue ⟨x0, x1, x2, x3, x4⟩ = (PV.agg (((PV.int .i64) x0).cells ++ (PV.agg (((PV.int .i64) x1).cells ++ (PV.agg ((PV.str x2).cells ++ (PV.agg ((PV.slice (List.map encValue x3) [] false).cells ++ (PV.agg ((PV.slice (List.map encMember x4) [] false).cells ++ (PV.agg []).cells)).cells)).cells)).cells)).cells)) := by
  simp only [tys, cells, List.cons_append, List.nil_append]
theorem cvMember (x0 : Str) (x1 : GValue) : encMember ⟨x0, x1⟩ = (PV.agg ((PV.str x0).cells ++ (PV.agg ((encValue x1).cells ++ (PV.agg []).cells)).cells)) := by
  simp only [tys, cells, List.cons_append, List.nil_append]
theorem cvParam (x0 : Str) (x1 : GType) (x2 : Bool) (x3 : GValue) : encParam ⟨x0, x1, x2, x3⟩ = (PV.agg ((PV.str x0).cells ++ (PV.agg ((encType x1).cells ++ (PV.agg ((PV.bool x2).cells ++ (PV.agg ((encValue x3).cells ++ (PV.agg []).cells)).cells)).cells)).cells)) := by
  simp only [tys, cells, List.cons_append, List.nil_append]
theorem cvDir (x0 : Str) (x1 : List GMember) : encDir ⟨x0, x1⟩ = (PV.agg ((PV.str x0).cells ++ (PV.agg ((PV.slice (List.map encMember x1) [] false).cells ++ (PV.agg []).cells)).cells)) := by
  simp only [tys, cells, List.cons_append, List.nil_append]
theorem cvFieldDef (x0 : Str) (x1 : List GParam) (x2 : GType) (x3 : List GDir) : encFieldDef ⟨x0, x1, x2, x3⟩ = (PV.agg ((PV.str x0).cells ++ (PV.agg ((PV.slice (List.map encParam x1) [] false).cells ++ (PV.agg ((encType x2).cells ++ (PV.agg ((PV.slice (List.map encDir x3) [] false).cells ++ (PV.agg []).cells)).cells)).cells)).cells)) := by
  simp only [tys, cells, List.cons_append, List.nil_append]
theorem cvDef (x0 : Int) (x1 : Str) (x2 : List Str) (x3 : List GFieldDef) (x4 : List Str) (x5 : List GParam) : encDef ⟨x0, x1, x2, x3, x4, x5⟩ = (PV.agg (((PV.int .i64) x0).cells ++ (PV.agg ((PV.str x1).cells ++ (PV.agg ((PV.slice (List.map PV.str x2) [] false).cells ++ (PV.agg ((PV.slice (List.map encFieldDef x3) [] false).cells ++ (PV.agg ((PV.slice (List.map PV.str x4) [] false).cells ++ (PV.agg ((PV.slice (List.map encParam x5) [] false).cells ++ (PV.agg []).cells)).cells)).cells)).cells)).cells)).cells)) := by
  simp only [tys, cells, List.cons_append, List.nil_append]
theorem cvSchema (x0 : List GDef) (x1 : Str) (x2 : Str) : encSchema ⟨x0, x1, x2⟩ = (PV.agg ((PV.slice (List.map encDef x0) [] false).cells ++ (PV.agg ((PV.str x1).cells ++ (PV.agg ((PV.str x2).cells ++ (PV.agg []).cells)).cells)).cells)) := by
  simp only [tys, cells, List.cons_append, List.nil_append]
theorem hcv : ∀ i (x : (BS i).den RS), ∃ y : (RS i).D, (RS i).en y = enc RS (BS i) x ∧ (RS i).bk y ≤ bulk RS (BS i) x + 1 ∧ (good RS (BS i) x → (RS i).gd y)
  | 0, ⟨x0, x1, x2, _⟩ => ⟨(⟨x0, x1, x2⟩ : GType), (cvType x0 x1 x2).trans rfl, Nat.le_of_eq ((bkType_eq _).trans rfl), fun h => (gdType_eq _).mpr h⟩
  | 1, ⟨x0, x1, x2, x3, x4, _⟩ => ⟨(⟨x0, x1, x2, x3, x4⟩ : GValue), (cvValue x0 x1 x2 x3 x4).trans rfl, Nat.le_of_eq ((bkValue_eq _).trans rfl), fun h => (gdValue_eq _).mpr h⟩
  | 2, ⟨x0, x1, _⟩ => ⟨(⟨x0, x1⟩ : GMember), (cvMember x0 x1).trans rfl, Nat.le_of_eq ((bkMember_eq _).trans rfl), fun h => (gdMember_eq _).mpr h⟩
  | 3, ⟨x0, x1, x2, x3, _⟩ => ⟨(⟨x0, x1, x2, x3⟩ : GParam), (cvParam x0 x1 x2 x3).trans rfl, Nat.le_of_eq ((bkParam_eq _).trans rfl), fun h => (gdParam_eq _).mpr h⟩
  | 4, ⟨x0, x1, _⟩ => ⟨(⟨x0, x1⟩ : GDir), (cvDir x0 x1).trans rfl, Nat.le_of_eq ((bkDir_eq _).trans rfl), fun h => (gdDir_eq _).mpr h⟩
  | 5, ⟨x0, x1, x2, x3, _⟩ => ⟨(⟨x0, x1, x2, x3⟩ : GFieldDef), (cvFieldDef x0 x1 x2 x3).trans rfl, Nat.le_of_eq ((bkFieldDef_eq _).trans rfl), fun h => (gdFieldDef_eq _).mpr h⟩
  | 6, ⟨x0, x1, x2, x3, x4, x5, _⟩ => ⟨(⟨x0, x1, x2, x3, x4, x5⟩ : GDef), (cvDef x0 x1 x2 x3 x4 x5).trans rfl, Nat.le_of_eq ((bkDef_eq _).trans rfl), fun h => (gdDef_eq _).mpr h⟩
  | _ + 7, ⟨x0, x1, x2, _⟩ => ⟨(⟨x0, x1, x2⟩ : GSchema), (cvSchema x0 x1 x2).trans rfl, Nat.le_of_eq ((bkSchema_eq _).trans rfl), fun h => (gdSchema_eq _).mpr h⟩
theorem rok {H : Type} (e : TypeId × Value → H) (W : World) {bl : DataW H → Nat} {bla : List (DataW H) → Nat} (hb : BlOk bl bla) : ROk RS TS e Try.prog W bl where
  op := open_ext hb 9 BS hty hcv
  ag := fun i => match i with
    | 0 => fun x => ⟨_, encType_eq x⟩
    | 1 => fun x => ⟨_, encValue_eq x⟩
    | 2 => fun x => ⟨_, encMember_eq x⟩
    | 3 => fun x => ⟨_, encParam_eq x⟩
    | 4 => fun x => ⟨_, encDir_eq x⟩
    | 5 => fun x => ⟨_, encFieldDef_eq x⟩
    | 6 => fun x => ⟨_, encDef_eq x⟩
    | _ + 7 => fun x => ⟨_, encSchema_eq x⟩
  st := fun i => (hty i).imp fun F h => h.1
end Go.Proofs.Ytigiafabnidggaa
