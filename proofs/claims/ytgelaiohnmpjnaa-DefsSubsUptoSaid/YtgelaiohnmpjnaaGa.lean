import Derived.Test.YtgelaiohnmpjnaaEd
import Derived.Test.YtgelaiohnmpjnaaProg
import Derived.KernelRfl
set_option linter.unusedVariables false
set_option linter.unusedSimpArgs false
/- Printed by symgen.py: what the functions of this seat compute, as typed functions, and why. -/
set_option linter.unusedVariables false
set_option linter.unusedSimpArgs false
open Go Go.Ev Go.Ev.PV
namespace Go.Proofs.Ytgelaiohnmpjnaa
structure GType where
  name : Str
  lists : Int
  musts : Int

mutual
structure GValue where
  kind : Int
  n : Int
  s : Str
  l : List GValue
  m : List GMember

structure GMember where
  name : Str
  v : GValue

end
structure GParam where
  name : Str
  t : GType
  has : Bool
  default : GValue

structure GDir where
  name : Str
  args : List GMember

structure GFieldDef where
  name : Str
  params : List GParam
  t : GType
  dirs : List GDir

structure GDef where
  kind : Int
  name : Str
  faces : List Str
  fields : List GFieldDef
  parts : List Str
  params : List GParam

structure GSchema where
  defs : List GDef
  query : Str
  mutation : Str

def shType : Sh := .agg [.str, (.int .i64), (.int .i64)]
def shValue : Sh := .agg [(.int .i64), (.int .i64), .str, (.sl false), (.sl false)]
def shMember : Sh := .agg [.str, (.int .i64), (.int .i64), .str, (.sl false), (.sl false)]
def shParam : Sh := .agg [.str, .str, (.int .i64), (.int .i64), .bool, (.int .i64), (.int .i64), .str, (.sl false), (.sl false)]
def shDir : Sh := .agg [.str, (.sl false)]
def shFieldDef : Sh := .agg [.str, (.sl false), .str, (.int .i64), (.int .i64), (.sl false)]
def shDef : Sh := .agg [(.int .i64), .str, (.sl false), (.sl false), (.sl false), (.sl false)]
def shSchema : Sh := .agg [(.sl false), .str, .str]
def encType (x : GType) : PV := .agg [.str x.name, .int .i64 x.lists, .int .i64 x.musts]
theorem encType_eq (x : GType) : encType x = .agg [.str x.name, .int .i64 x.lists, .int .i64 x.musts] := rfl
theorem chk_GType (x : GType) : chk shType (encType x) = true := by rw [encType_eq]; rfl
theorem inj_GType (a b : GType) (h : encType a = encType b) : a = b := by
  simp only [encType_eq, PV.agg.injEq, List.cons.injEq, PV.slice.injEq, PV.str.injEq, PV.int.injEq, PV.bool.injEq, true_and, and_true] at h
  obtain ⟨a0, a1, a2⟩ := a
  obtain ⟨b0, b1, b2⟩ := b
  dsimp only at h
  have e0 := h.1
  have e1 := h.2.1
  have e2 := h.2.2
  subst e0 e1 e2
  rfl
mutual
def encValue : GValue → PV
  | ⟨x0, x1, x2, x3, x4⟩ => .agg ([.int .i64 x0, .int .i64 x1, .str x2, .slice (encValues x3) [] false, .slice (encMembers x4) [] false])
def encMember : GMember → PV
  | ⟨x0, x1⟩ => .agg ([.str x0] ++ (encValue x1).cells)
def encValues : List GValue → List PV
  | [] => []
  | x :: l => encValue x :: encValues l
def encMembers : List GMember → List PV
  | [] => []
  | x :: l => encMember x :: encMembers l
end
theorem encValues_eq : ∀ (l : List GValue), encValues l = List.map encValue l
  | [] => by simp only [encValues, List.map]
  | x :: l => by simp only [encValues, List.map, encValues_eq l]
theorem encMembers_eq : ∀ (l : List GMember), encMembers l = List.map encMember l
  | [] => by simp only [encMembers, List.map]
  | x :: l => by simp only [encMembers, List.map, encMembers_eq l]
theorem encValue_eq (x : GValue) : encValue x = .agg [.int .i64 x.kind, .int .i64 x.n, .str x.s, .slice (List.map encValue x.l) [] false, .slice (List.map encMember x.m) [] false] := by
  cases x; simp only [encValue, cells, List.cons_append, List.nil_append, encValues_eq, encMembers_eq]
theorem encMember_eq (x : GMember) : encMember x = .agg [.str x.name, .int .i64 x.v.kind, .int .i64 x.v.n, .str x.v.s, .slice (List.map encValue x.v.l) [] false, .slice (List.map encMember x.v.m) [] false] := by
  cases x; simp only [encMember, cells, List.cons_append, List.nil_append, encValues_eq, encMembers_eq, encValue_eq]
theorem chk_GValue (x : GValue) : chk shValue (encValue x) = true := by rw [encValue_eq]; rfl
theorem chk_GMember (x : GMember) : chk shMember (encMember x) = true := by rw [encMember_eq]; rfl
mutual
theorem inj_GValue : ∀ (a b : GValue), encValue a = encValue b → a = b
  | ⟨a0, a1, a2, a3, a4⟩, ⟨b0, b1, b2, b3, b4⟩, h => by
    simp only [encValue, PV.agg.injEq, List.cons.injEq, List.append_eq, PV.slice.injEq, PV.str.injEq, PV.int.injEq, PV.bool.injEq, true_and, and_true] at h
    have e0 := h.1
    have e1 := h.2.1
    have e2 := h.2.2.1
    have e3 := inj_GValues _ _ h.2.2.2.1
    have e4 := inj_GMembers _ _ h.2.2.2.2
    subst e0 e1 e2 e3 e4
    rfl
theorem inj_GMember : ∀ (a b : GMember), encMember a = encMember b → a = b
  | ⟨a0, a1⟩, ⟨b0, b1⟩, h => by
    simp only [encMember, PV.agg.injEq, List.cons_append, List.nil_append, List.cons.injEq, PV.slice.injEq, PV.str.injEq, PV.int.injEq, PV.bool.injEq, true_and, and_true] at h
    have e0 := h.1
    have e1 := inj_GValue a1 b1 (by
      have h' := h.2
      cases a1; cases b1; simp only [encValue, cells] at h' ⊢; rw [h'])
    subst e0 e1
    rfl
theorem inj_GValues : ∀ (a b : List GValue), encValues a = encValues b → a = b
  | [], [], _ => rfl
  | [], _ :: _, h => by simp [encValues] at h
  | _ :: _, [], h => by simp [encValues] at h
  | x :: l, y :: m, h => by
    simp only [encValues, List.cons.injEq] at h
    rw [inj_GValue x y h.1, inj_GValues l m h.2]
theorem inj_GMembers : ∀ (a b : List GMember), encMembers a = encMembers b → a = b
  | [], [], _ => rfl
  | [], _ :: _, h => by simp [encMembers] at h
  | _ :: _, [], h => by simp [encMembers] at h
  | x :: l, y :: m, h => by
    simp only [encMembers, List.cons.injEq] at h
    rw [inj_GMember x y h.1, inj_GMembers l m h.2]
end
def encParam (x : GParam) : PV := .agg [.str x.name, .str x.t.name, .int .i64 x.t.lists, .int .i64 x.t.musts, .bool x.has, .int .i64 x.default.kind, .int .i64 x.default.n, .str x.default.s, .slice (List.map encValue x.default.l) [] false, .slice (List.map encMember x.default.m) [] false]
theorem encParam_eq (x : GParam) : encParam x = .agg [.str x.name, .str x.t.name, .int .i64 x.t.lists, .int .i64 x.t.musts, .bool x.has, .int .i64 x.default.kind, .int .i64 x.default.n, .str x.default.s, .slice (List.map encValue x.default.l) [] false, .slice (List.map encMember x.default.m) [] false] := rfl
theorem chk_GParam (x : GParam) : chk shParam (encParam x) = true := by rw [encParam_eq]; rfl
theorem inj_GParam (a b : GParam) (h : encParam a = encParam b) : a = b := by
  simp only [encParam_eq, PV.agg.injEq, List.cons.injEq, PV.slice.injEq, PV.str.injEq, PV.int.injEq, PV.bool.injEq, true_and, and_true] at h
  obtain ⟨a0, ⟨a1, a2, a3⟩, a4, ⟨a5, a6, a7, a8, a9⟩⟩ := a
  obtain ⟨b0, ⟨b1, b2, b3⟩, b4, ⟨b5, b6, b7, b8, b9⟩⟩ := b
  dsimp only at h
  have e0 := h.1
  have e1 := h.2.1
  have e2 := h.2.2.1
  have e3 := h.2.2.2.1
  have e4 := h.2.2.2.2.1
  have e5 := h.2.2.2.2.2.1
  have e6 := h.2.2.2.2.2.2.1
  have e7 := h.2.2.2.2.2.2.2.1
  have e8 := map_inj' inj_GValue h.2.2.2.2.2.2.2.2.1
  have e9 := map_inj' inj_GMember h.2.2.2.2.2.2.2.2.2
  subst e0 e1 e2 e3 e4 e5 e6 e7 e8 e9
  rfl
def encDir (x : GDir) : PV := .agg [.str x.name, .slice (List.map encMember x.args) [] false]
theorem encDir_eq (x : GDir) : encDir x = .agg [.str x.name, .slice (List.map encMember x.args) [] false] := rfl
theorem chk_GDir (x : GDir) : chk shDir (encDir x) = true := by rw [encDir_eq]; rfl
theorem inj_GDir (a b : GDir) (h : encDir a = encDir b) : a = b := by
  simp only [encDir_eq, PV.agg.injEq, List.cons.injEq, PV.slice.injEq, PV.str.injEq, PV.int.injEq, PV.bool.injEq, true_and, and_true] at h
  obtain ⟨a0, a1⟩ := a
  obtain ⟨b0, b1⟩ := b
  dsimp only at h
  have e0 := h.1
  have e1 := map_inj' inj_GMember h.2
  subst e0 e1
  rfl
def encFieldDef (x : GFieldDef) : PV := .agg [.str x.name, .slice (List.map encParam x.params) [] false, .str x.t.name, .int .i64 x.t.lists, .int .i64 x.t.musts, .slice (List.map encDir x.dirs) [] false]
theorem encFieldDef_eq (x : GFieldDef) : encFieldDef x = .agg [.str x.name, .slice (List.map encParam x.params) [] false, .str x.t.name, .int .i64 x.t.lists, .int .i64 x.t.musts, .slice (List.map encDir x.dirs) [] false] := rfl
theorem chk_GFieldDef (x : GFieldDef) : chk shFieldDef (encFieldDef x) = true := by rw [encFieldDef_eq]; rfl
theorem inj_GFieldDef (a b : GFieldDef) (h : encFieldDef a = encFieldDef b) : a = b := by
  simp only [encFieldDef_eq, PV.agg.injEq, List.cons.injEq, PV.slice.injEq, PV.str.injEq, PV.int.injEq, PV.bool.injEq, true_and, and_true] at h
  obtain ⟨a0, a1, ⟨a2, a3, a4⟩, a5⟩ := a
  obtain ⟨b0, b1, ⟨b2, b3, b4⟩, b5⟩ := b
  dsimp only at h
  have e0 := h.1
  have e1 := map_inj' inj_GParam h.2.1
  have e2 := h.2.2.1
  have e3 := h.2.2.2.1
  have e4 := h.2.2.2.2.1
  have e5 := map_inj' inj_GDir h.2.2.2.2.2
  subst e0 e1 e2 e3 e4 e5
  rfl
def encDef (x : GDef) : PV := .agg [.int .i64 x.kind, .str x.name, .slice (List.map PV.str x.faces) [] false, .slice (List.map encFieldDef x.fields) [] false, .slice (List.map PV.str x.parts) [] false, .slice (List.map encParam x.params) [] false]
theorem encDef_eq (x : GDef) : encDef x = .agg [.int .i64 x.kind, .str x.name, .slice (List.map PV.str x.faces) [] false, .slice (List.map encFieldDef x.fields) [] false, .slice (List.map PV.str x.parts) [] false, .slice (List.map encParam x.params) [] false] := rfl
theorem chk_GDef (x : GDef) : chk shDef (encDef x) = true := by rw [encDef_eq]; rfl
theorem inj_GDef (a b : GDef) (h : encDef a = encDef b) : a = b := by
  simp only [encDef_eq, PV.agg.injEq, List.cons.injEq, PV.slice.injEq, PV.str.injEq, PV.int.injEq, PV.bool.injEq, true_and, and_true] at h
  obtain ⟨a0, a1, a2, a3, a4, a5⟩ := a
  obtain ⟨b0, b1, b2, b3, b4, b5⟩ := b
  dsimp only at h
  have e0 := h.1
  have e1 := h.2.1
  have e2 := map_inj' Ev.str_inj h.2.2.1
  have e3 := map_inj' inj_GFieldDef h.2.2.2.1
  have e4 := map_inj' Ev.str_inj h.2.2.2.2.1
  have e5 := map_inj' inj_GParam h.2.2.2.2.2
  subst e0 e1 e2 e3 e4 e5
  rfl
def encSchema (x : GSchema) : PV := .agg [.slice (List.map encDef x.defs) [] false, .str x.query, .str x.mutation]
theorem encSchema_eq (x : GSchema) : encSchema x = .agg [.slice (List.map encDef x.defs) [] false, .str x.query, .str x.mutation] := rfl
theorem chk_GSchema (x : GSchema) : chk shSchema (encSchema x) = true := by rw [encSchema_eq]; rfl
theorem inj_GSchema (a b : GSchema) (h : encSchema a = encSchema b) : a = b := by
  simp only [encSchema_eq, PV.agg.injEq, List.cons.injEq, PV.slice.injEq, PV.str.injEq, PV.int.injEq, PV.bool.injEq, true_and, and_true] at h
  obtain ⟨a0, a1, a2⟩ := a
  obtain ⟨b0, b1, b2⟩ := b
  dsimp only at h
  have e0 := map_inj' inj_GDef h.1
  have e1 := h.2.1
  have e2 := h.2.2
  subst e0 e1 e2
  rfl
theorem tys : (∀ x : GType, encType x = .agg [.str x.name, .int .i64 x.lists, .int .i64 x.musts]) ∧
    (∀ x : GValue, encValue x = .agg [.int .i64 x.kind, .int .i64 x.n, .str x.s, .slice (List.map encValue x.l) [] false, .slice (List.map encMember x.m) [] false]) ∧
    (∀ x : GMember, encMember x = .agg [.str x.name, .int .i64 x.v.kind, .int .i64 x.v.n, .str x.v.s, .slice (List.map encValue x.v.l) [] false, .slice (List.map encMember x.v.m) [] false]) ∧
    (∀ x : GParam, encParam x = .agg [.str x.name, .str x.t.name, .int .i64 x.t.lists, .int .i64 x.t.musts, .bool x.has, .int .i64 x.default.kind, .int .i64 x.default.n, .str x.default.s, .slice (List.map encValue x.default.l) [] false, .slice (List.map encMember x.default.m) [] false]) ∧
    (∀ x : GDir, encDir x = .agg [.str x.name, .slice (List.map encMember x.args) [] false]) ∧
    (∀ x : GFieldDef, encFieldDef x = .agg [.str x.name, .slice (List.map encParam x.params) [] false, .str x.t.name, .int .i64 x.t.lists, .int .i64 x.t.musts, .slice (List.map encDir x.dirs) [] false]) ∧
    (∀ x : GDef, encDef x = .agg [.int .i64 x.kind, .str x.name, .slice (List.map PV.str x.faces) [] false, .slice (List.map encFieldDef x.fields) [] false, .slice (List.map PV.str x.parts) [] false, .slice (List.map encParam x.params) [] false]) ∧
    (∀ x : GSchema, encSchema x = .agg [.slice (List.map encDef x.defs) [] false, .str x.query, .str x.mutation]) := ⟨encType_eq, encValue_eq, encMember_eq, encParam_eq, encDir_eq, encFieldDef_eq, encDef_eq, encSchema_eq⟩
theorem chks : (∀ x, chk shType (encType x) = true) ∧
    (∀ x, chk shValue (encValue x) = true) ∧
    (∀ x, chk shMember (encMember x) = true) ∧
    (∀ x, chk shParam (encParam x) = true) ∧
    (∀ x, chk shDir (encDir x) = true) ∧
    (∀ x, chk shFieldDef (encFieldDef x) = true) ∧
    (∀ x, chk shDef (encDef x) = true) ∧
    (∀ x, chk shSchema (encSchema x) = true) := ⟨chk_GType, chk_GValue, chk_GMember, chk_GParam, chk_GDir, chk_GFieldDef, chk_GDef, chk_GSchema⟩
end Go.Proofs.Ytgelaiohnmpjnaa

/- Printed by symgen.py: the functions, seen from outside. -/
set_option linter.unusedVariables false
set_option linter.unusedSimpArgs false
open Go Go.Ev Go.Ev.PV
namespace Go.Proofs.Ytgelaiohnmpjnaa
def MTL : List (Nat × Hints) := [(5, { takes := [], gens := [], keeps := [], own := false, drop := true }),
  (17, { takes := [], gens := [], keeps := [(3, [1, 3, 4]), (8, [1, 3, 4, 5, 6])], own := false, drop := true }),
  (18, { takes := [], gens := [], keeps := [], own := false, drop := true }),
  (19, { takes := [], gens := [], keeps := [], own := false, drop := true }),
  (20, { takes := [], gens := [], keeps := [], own := false, drop := true }),
  (21, { takes := [], gens := [], keeps := [], own := false, drop := true }),
  (22, { takes := [], gens := [], keeps := [], own := false, drop := true }),
  (46, { takes := [], gens := [], keeps := [(3, [0, 3, 4])], own := false, drop := true }),
  (47, { takes := [], gens := [], keeps := [(3, [0, 3, 4])], own := false, drop := true }),
  (48, { takes := [], gens := [], keeps := [(3, [0, 3, 4])], own := false, drop := true }),
  (49, { takes := [44, 47, 62, 64], gens := [], keeps := [(10, [1, 7, 29, 30, 31]), (17, [2, 7, 52, 53, 54])], own := false, drop := true }),
  (84, { takes := [], gens := [], keeps := [], own := false, drop := true }),
  (83, { takes := [], gens := [16], keeps := [(2, [0, 1, 4, 7, 8])], own := false, drop := true }),
  (50, { takes := [], gens := [42], keeps := [], own := false, drop := true }),
  (51, { takes := [], gens := [], keeps := [], own := false, drop := true }),
  (52, { takes := [], gens := [], keeps := [(4, [7, 8, 18, 19, 20]), (7, [7, 8, 10, 18, 19, 20, 24, 25, 26])], own := false, drop := true }),
  (53, { takes := [], gens := [], keeps := [(4, [1, 4, 5, 13, 14, 15])], own := false, drop := true }),
  (54, { takes := [], gens := [], keeps := [], own := false, drop := true }),
  (55, { takes := [], gens := [], keeps := [], own := false, drop := true }),
  (56, { takes := [], gens := [], keeps := [], own := false, drop := true }),
  (57, { takes := [], gens := [], keeps := [], own := false, drop := true }),
  (58, { takes := [], gens := [], keeps := [(4, [1, 2, 4, 5, 6])], own := false, drop := true }),
  (60, { takes := [24, 60, 93], gens := [], keeps := [(8, [1, 2, 7, 8]), (15, [2, 5, 7, 10])], own := false, drop := true }),
  (59, { takes := [], gens := [], keeps := [(2, [0, 1, 4, 5])], own := false, drop := true }),
  (61, { takes := [], gens := [], keeps := [(2, [0, 2, 5, 6])], own := false, drop := true }),
  (24, { takes := [], gens := [], keeps := [(3, [1, 3, 4]), (7, [1, 3, 5])], own := false, drop := true }),
  (81, { takes := [8, 9], gens := [], keeps := [], own := true, drop := true }),
  (82, { takes := [], gens := [], keeps := [], own := false, drop := true }),
  (85, { takes := [], gens := [], keeps := [], own := false, drop := true }),
  (86, { takes := [], gens := [], keeps := [(2, [0, 1, 4, 7, 8])], own := false, drop := true }),
  (87, { takes := [], gens := [], keeps := [], own := false, drop := true }),
  (88, { takes := [], gens := [], keeps := [(4, [0, 2, 3])], own := false, drop := true }),
  (89, { takes := [], gens := [], keeps := [], own := false, drop := true }),
  (90, { takes := [], gens := [], keeps := [], own := false, drop := true }),
  (91, { takes := [], gens := [], keeps := [], own := false, drop := true }),
  (92, { takes := [], gens := [], keeps := [], own := false, drop := true }),
  (111, { takes := [], gens := [], keeps := [(2, [0, 1, 4, 7, 8])], own := false, drop := true }),
  (112, { takes := [], gens := [], keeps := [], own := false, drop := true }),
  (113, { takes := [], gens := [], keeps := [], own := false, drop := true }),
  (114, { takes := [], gens := [], keeps := [], own := false, drop := true })]
def MT (f : FuncId) : Hints := match Go.Ev.look MTL f with | some m => m | none => {}
def XT : Ext := fun _ => none
noncomputable def O : Orc := OL Try.prog MT XT
def seinelaw9_DefsSubsE : Bool → PV := fun r => PV.bool r
theorem seinelaw9_DefsSubsEj (a b : Bool) (h : seinelaw9_DefsSubsE a = seinelaw9_DefsSubsE b) : a = b := Ev.bool_inj a b h
noncomputable def seinelaw9_DefsSubs (s : GSchema) (a : GType) (b : GType) : Option Bool := tO O 5 [(.agg [(.slice (List.map encDef s.defs) [] false), (.str s.query), (.str s.mutation)]), (.agg [(.str a.name), (.int .i64 a.lists), (.int .i64 a.musts)]), (.agg [(.str b.name), (.int .i64 b.lists), (.int .i64 b.musts)])] [] fun r => (seinelaw9_DefsSubsE r, [])
theorem seinelaw9_DefsSubs_spec {s : GSchema} {a : GType} {b : GType} {r : Bool} (h : seinelaw9_DefsSubs s a b = some r) : O 5 [(.agg [(.slice (List.map encDef s.defs) [] false), (.str s.query), (.str s.mutation)]), (.agg [(.str a.name), (.int .i64 a.lists), (.int .i64 a.musts)]), (.agg [(.str b.name), (.int .i64 b.lists), (.int .i64 b.musts)])] [] = some (seinelaw9_DefsSubsE r, []) := tO_spec (enc := fun r => (seinelaw9_DefsSubsE r, [])) h
def seinelaw8_LightE : Bool → PV := fun r => PV.bool r
theorem seinelaw8_LightEj (a b : Bool) (h : seinelaw8_LightE a = seinelaw8_LightE b) : a = b := Ev.bool_inj a b h
noncomputable def seinelaw8_Light (s : GSchema) : Option Bool := tO O 17 [(.agg [(.slice (List.map encDef s.defs) [] false), (.str s.query), (.str s.mutation)])] [] fun r => (seinelaw8_LightE r, [])
theorem seinelaw8_Light_spec {s : GSchema} {r : Bool} (h : seinelaw8_Light s = some r) : O 17 [(.agg [(.slice (List.map encDef s.defs) [] false), (.str s.query), (.str s.mutation)])] [] = some (seinelaw8_LightE r, []) := tO_spec (enc := fun r => (seinelaw8_LightE r, [])) h
def seinelaw9_awakeE : Bool → PV := fun r => PV.bool r
theorem seinelaw9_awakeEj (a b : Bool) (h : seinelaw9_awakeE a = seinelaw9_awakeE b) : a = b := Ev.bool_inj a b h
noncomputable def seinelaw9_awake : Option Bool := tO O 18 [] [] fun r => (seinelaw9_awakeE r, [])
theorem seinelaw9_awake_spec {r : Bool} (h : seinelaw9_awake = some r) : O 18 [] [] = some (seinelaw9_awakeE r, []) := tO_spec (enc := fun r => (seinelaw9_awakeE r, [])) h
def defs_SubE : Bool → PV := fun r => PV.bool r
theorem defs_SubEj (a b : Bool) (h : defs_SubE a = defs_SubE b) : a = b := Ev.bool_inj a b h
noncomputable def defs_Sub (s : GSchema) (a : GType) (b : GType) : Option Bool := tO O 19 [(.agg [(.slice (List.map encDef s.defs) [] false), (.str s.query), (.str s.mutation)]), (.agg [(.str a.name), (.int .i64 a.lists), (.int .i64 a.musts)]), (.agg [(.str b.name), (.int .i64 b.lists), (.int .i64 b.musts)])] [] fun r => (defs_SubE r, [])
theorem defs_Sub_spec {s : GSchema} {a : GType} {b : GType} {r : Bool} (h : defs_Sub s a b = some r) : O 19 [(.agg [(.slice (List.map encDef s.defs) [] false), (.str s.query), (.str s.mutation)]), (.agg [(.str a.name), (.int .i64 a.lists), (.int .i64 a.musts)]), (.agg [(.str b.name), (.int .i64 b.lists), (.int .i64 b.musts)])] [] = some (defs_SubE r, []) := tO_spec (enc := fun r => (defs_SubE r, [])) h
def seineref9_SubE : Bool → PV := fun r => PV.bool r
theorem seineref9_SubEj (a b : Bool) (h : seineref9_SubE a = seineref9_SubE b) : a = b := Ev.bool_inj a b h
noncomputable def seineref9_Sub (s : GSchema) (a : GType) (b : GType) : Option Bool := tO O 20 [(.agg [(.slice (List.map encDef s.defs) [] false), (.str s.query), (.str s.mutation)]), (.agg [(.str a.name), (.int .i64 a.lists), (.int .i64 a.musts)]), (.agg [(.str b.name), (.int .i64 b.lists), (.int .i64 b.musts)])] [] fun r => (seineref9_SubE r, [])
theorem seineref9_Sub_spec {s : GSchema} {a : GType} {b : GType} {r : Bool} (h : seineref9_Sub s a b = some r) : O 20 [(.agg [(.slice (List.map encDef s.defs) [] false), (.str s.query), (.str s.mutation)]), (.agg [(.str a.name), (.int .i64 a.lists), (.int .i64 a.musts)]), (.agg [(.str b.name), (.int .i64 b.lists), (.int .i64 b.musts)])] [] = some (seineref9_SubE r, []) := tO_spec (enc := fun r => (seineref9_SubE r, [])) h
def wrap_RightE : Bool → PV := fun r => PV.bool r
theorem wrap_RightEj (a b : Bool) (h : wrap_RightE a = wrap_RightE b) : a = b := Ev.bool_inj a b h
noncomputable def wrap_Right (t : GType) : Option Bool := tO O 21 [(.agg [(.str t.name), (.int .i64 t.lists), (.int .i64 t.musts)])] [] fun r => (wrap_RightE r, [])
theorem wrap_Right_spec {t : GType} {r : Bool} (h : wrap_Right t = some r) : O 21 [(.agg [(.str t.name), (.int .i64 t.lists), (.int .i64 t.musts)])] [] = some (wrap_RightE r, []) := tO_spec (enc := fun r => (wrap_RightE r, [])) h
def wrap_SubE : Bool → PV := fun r => PV.bool r
theorem wrap_SubEj (a b : Bool) (h : wrap_SubE a = wrap_SubE b) : a = b := Ev.bool_inj a b h
noncomputable def wrap_Sub (a : GType) (b : GType) : Option Bool := tO O 22 [(.agg [(.str a.name), (.int .i64 a.lists), (.int .i64 a.musts)]), (.agg [(.str b.name), (.int .i64 b.lists), (.int .i64 b.musts)])] [] fun r => (wrap_SubE r, [])
theorem wrap_Sub_spec {a : GType} {b : GType} {r : Bool} (h : wrap_Sub a b = some r) : O 22 [(.agg [(.str a.name), (.int .i64 a.lists), (.int .i64 a.musts)]), (.agg [(.str b.name), (.int .i64 b.lists), (.int .i64 b.musts)])] [] = some (wrap_SubE r, []) := tO_spec (enc := fun r => (wrap_SubE r, [])) h
def seinelaw8_lightTextsE : Int → PV := fun r => (PV.int .i64) r
theorem seinelaw8_lightTextsEj (a b : Int) (h : seinelaw8_lightTextsE a = seinelaw8_lightTextsE b) : a = b := (Ev.int_inj _) a b h
noncomputable def seinelaw8_lightTexts (l0 : List Str) : Option Int := tO O 46 [(.slice (List.map PV.str l0) [] false)] [] fun r => (seinelaw8_lightTextsE r, [])
theorem seinelaw8_lightTexts_spec {l0 : List Str} {r : Int} (h : seinelaw8_lightTexts l0 = some r) : O 46 [(.slice (List.map PV.str l0) [] false)] [] = some (seinelaw8_lightTextsE r, []) := tO_spec (enc := fun r => (seinelaw8_lightTextsE r, [])) h
def seinelaw8_lightParamsE : Int → PV := fun r => (PV.int .i64) r
theorem seinelaw8_lightParamsEj (a b : Int) (h : seinelaw8_lightParamsE a = seinelaw8_lightParamsE b) : a = b := (Ev.int_inj _) a b h
noncomputable def seinelaw8_lightParams (l0 : List GParam) : Option Int := tO O 47 [(.slice (List.map encParam l0) [] false)] [] fun r => (seinelaw8_lightParamsE r, [])
theorem seinelaw8_lightParams_spec {l0 : List GParam} {r : Int} (h : seinelaw8_lightParams l0 = some r) : O 47 [(.slice (List.map encParam l0) [] false)] [] = some (seinelaw8_lightParamsE r, []) := tO_spec (enc := fun r => (seinelaw8_lightParamsE r, [])) h
def seinelaw8_lightDirsE : Int → PV := fun r => (PV.int .i64) r
theorem seinelaw8_lightDirsEj (a b : Int) (h : seinelaw8_lightDirsE a = seinelaw8_lightDirsE b) : a = b := (Ev.int_inj _) a b h
noncomputable def seinelaw8_lightDirs (l0 : List GDir) : Option Int := tO O 48 [(.slice (List.map encDir l0) [] false)] [] fun r => (seinelaw8_lightDirsE r, [])
theorem seinelaw8_lightDirs_spec {l0 : List GDir} {r : Int} (h : seinelaw8_lightDirs l0 = some r) : O 48 [(.slice (List.map encDir l0) [] false)] [] = some (seinelaw8_lightDirsE r, []) := tO_spec (enc := fun r => (seinelaw8_lightDirsE r, [])) h
def defs_PossibleE : (List Str) → PV := fun r => (encSl PV.str) r
theorem defs_PossibleEj (a b : List Str) (h : defs_PossibleE a = defs_PossibleE b) : a = b := (Ev.encSl_inj Ev.str_inj) a b h
noncomputable def defs_Possible (s : GSchema) (name : Str) : Option (List Str) := tO O 49 [(.agg [(.slice (List.map encDef s.defs) [] false), (.str s.query), (.str s.mutation)]), (.str name)] [] fun r => (defs_PossibleE r, [])
theorem defs_Possible_spec {s : GSchema} {name : Str} {r : List Str} (h : defs_Possible s name = some r) : O 49 [(.agg [(.slice (List.map encDef s.defs) [] false), (.str s.query), (.str s.mutation)]), (.str name)] [] = some (defs_PossibleE r, []) := tO_spec (enc := fun r => (defs_PossibleE r, [])) h
def defs_FindE : (GDef × Bool) → PV := fun r => .tuple [encDef r.1, PV.bool r.2]
theorem defs_FindEj (a b : GDef × Bool) (h : defs_FindE a = defs_FindE b) : a = b := by
  simp only [defs_FindE, PV.tuple.injEq, List.cons.injEq, and_true] at h
  exact Prod.ext (inj_GDef _ _ h.1) (Ev.bool_inj _ _ h.2)
noncomputable def defs_Find (s : GSchema) (name : Str) : Option (GDef × Bool) := tO O 53 [(.agg [(.slice (List.map encDef s.defs) [] false), (.str s.query), (.str s.mutation)]), (.str name)] [] fun r => (defs_FindE r, [])
theorem defs_Find_spec {s : GSchema} {name : Str} {r : GDef × Bool} (h : defs_Find s name = some r) : O 53 [(.agg [(.slice (List.map encDef s.defs) [] false), (.str s.query), (.str s.mutation)]), (.str name)] [] = some (defs_FindE r, []) := tO_spec (enc := fun r => (defs_FindE r, [])) h
def slices_Contains_string_stringE : Bool → PV := fun r => PV.bool r
theorem slices_Contains_string_stringEj (a b : Bool) (h : slices_Contains_string_stringE a = slices_Contains_string_stringE b) : a = b := Ev.bool_inj a b h
noncomputable def slices_Contains_string_string (s : List Str) (v0 : Str) : Option Bool := tO O 54 [(.slice (List.map PV.str s) [] false), (.str v0)] [] fun r => (slices_Contains_string_stringE r, [])
theorem slices_Contains_string_string_spec {s : List Str} {v0 : Str} {r : Bool} (h : slices_Contains_string_string s v0 = some r) : O 54 [(.slice (List.map PV.str s) [] false), (.str v0)] [] = some (slices_Contains_string_stringE r, []) := tO_spec (enc := fun r => (slices_Contains_string_stringE r, [])) h
def defs_KindE : Bool → PV := fun r => PV.bool r
theorem defs_KindEj (a b : Bool) (h : defs_KindE a = defs_KindE b) : a = b := Ev.bool_inj a b h
noncomputable def defs_Kind (s : GSchema) (name : Str) (kinds : List Int) : Option Bool := tO O 55 [(.agg [(.slice (List.map encDef s.defs) [] false), (.str s.query), (.str s.mutation)]), (.str name), (.slice (List.map (PV.int .i64) kinds) [] false)] [] fun r => (defs_KindE r, [])
theorem defs_Kind_spec {s : GSchema} {name : Str} {kinds : List Int} {r : Bool} (h : defs_Kind s name kinds = some r) : O 55 [(.agg [(.slice (List.map encDef s.defs) [] false), (.str s.query), (.str s.mutation)]), (.str name), (.slice (List.map (PV.int .i64) kinds) [] false)] [] = some (defs_KindE r, []) := tO_spec (enc := fun r => (defs_KindE r, [])) h
def seineref1_RightTypeE : Bool → PV := fun r => PV.bool r
theorem seineref1_RightTypeEj (a b : Bool) (h : seineref1_RightTypeE a = seineref1_RightTypeE b) : a = b := Ev.bool_inj a b h
noncomputable def seineref1_RightType (t : GType) : Option Bool := tO O 56 [(.agg [(.str t.name), (.int .i64 t.lists), (.int .i64 t.musts)])] [] fun r => (seineref1_RightTypeE r, [])
theorem seineref1_RightType_spec {t : GType} {r : Bool} (h : seineref1_RightType t = some r) : O 56 [(.agg [(.str t.name), (.int .i64 t.lists), (.int .i64 t.musts)])] [] = some (seineref1_RightTypeE r, []) := tO_spec (enc := fun r => (seineref1_RightTypeE r, [])) h
def seineref1_SubTypeE : Bool → PV := fun r => PV.bool r
theorem seineref1_SubTypeEj (a b : Bool) (h : seineref1_SubTypeE a = seineref1_SubTypeE b) : a = b := Ev.bool_inj a b h
noncomputable def seineref1_SubType (a : GType) (b : GType) : Option Bool := tO O 57 [(.agg [(.str a.name), (.int .i64 a.lists), (.int .i64 a.musts)]), (.agg [(.str b.name), (.int .i64 b.lists), (.int .i64 b.musts)])] [] fun r => (seineref1_SubTypeE r, [])
theorem seineref1_SubType_spec {a : GType} {b : GType} {r : Bool} (h : seineref1_SubType a b = some r) : O 57 [(.agg [(.str a.name), (.int .i64 a.lists), (.int .i64 a.musts)]), (.agg [(.str b.name), (.int .i64 b.lists), (.int .i64 b.musts)])] [] = some (seineref1_SubTypeE r, []) := tO_spec (enc := fun r => (seineref1_SubTypeE r, [])) h
def seineref9_FindE : (GDef × Bool) → PV := fun r => .tuple [encDef r.1, PV.bool r.2]
theorem seineref9_FindEj (a b : GDef × Bool) (h : seineref9_FindE a = seineref9_FindE b) : a = b := by
  simp only [seineref9_FindE, PV.tuple.injEq, List.cons.injEq, and_true] at h
  exact Prod.ext (inj_GDef _ _ h.1) (Ev.bool_inj _ _ h.2)
noncomputable def seineref9_Find (s : GSchema) (name : Str) : Option (GDef × Bool) := tO O 58 [(.agg [(.slice (List.map encDef s.defs) [] false), (.str s.query), (.str s.mutation)]), (.str name)] [] fun r => (seineref9_FindE r, [])
theorem seineref9_Find_spec {s : GSchema} {name : Str} {r : GDef × Bool} (h : seineref9_Find s name = some r) : O 58 [(.agg [(.slice (List.map encDef s.defs) [] false), (.str s.query), (.str s.mutation)]), (.str name)] [] = some (seineref9_FindE r, []) := tO_spec (enc := fun r => (seineref9_FindE r, [])) h
def seineref9_PossibleE : (List Str) → PV := fun r => (encSl PV.str) r
theorem seineref9_PossibleEj (a b : List Str) (h : seineref9_PossibleE a = seineref9_PossibleE b) : a = b := (Ev.encSl_inj Ev.str_inj) a b h
noncomputable def seineref9_Possible (s : GSchema) (name : Str) : Option (List Str) := tO O 60 [(.agg [(.slice (List.map encDef s.defs) [] false), (.str s.query), (.str s.mutation)]), (.str name)] [] fun r => (seineref9_PossibleE r, [])
theorem seineref9_Possible_spec {s : GSchema} {name : Str} {r : List Str} (h : seineref9_Possible s name = some r) : O 60 [(.agg [(.slice (List.map encDef s.defs) [] false), (.str s.query), (.str s.mutation)]), (.str name)] [] = some (seineref9_PossibleE r, []) := tO_spec (enc := fun r => (seineref9_PossibleE r, [])) h
def seineref1_HasE : Bool → PV := fun r => PV.bool r
theorem seineref1_HasEj (a b : Bool) (h : seineref1_HasE a = seineref1_HasE b) : a = b := Ev.bool_inj a b h
noncomputable def seineref1_Has (l0 : List Str) (s : Str) : Option Bool := tO O 59 [(.slice (List.map PV.str l0) [] false), (.str s)] [] fun r => (seineref1_HasE r, [])
theorem seineref1_Has_spec {l0 : List Str} {s : Str} {r : Bool} (h : seineref1_Has l0 s = some r) : O 59 [(.slice (List.map PV.str l0) [] false), (.str s)] [] = some (seineref1_HasE r, []) := tO_spec (enc := fun r => (seineref1_HasE r, [])) h
def letters_NameE : Bool → PV := fun r => PV.bool r
theorem letters_NameEj (a b : Bool) (h : letters_NameE a = letters_NameE b) : a = b := Ev.bool_inj a b h
noncomputable def letters_Name (s : Str) : Option Bool := tO O 61 [(.str s)] [] fun r => (letters_NameE r, [])
theorem letters_Name_spec {s : Str} {r : Bool} (h : letters_Name s = some r) : O 61 [(.str s)] [] = some (letters_NameE r, []) := tO_spec (enc := fun r => (letters_NameE r, [])) h
def seinekeep_SizeE : Int → PV := fun r => (PV.int .i64) r
theorem seinekeep_SizeEj (a b : Int) (h : seinekeep_SizeE a = seinekeep_SizeE b) : a = b := (Ev.int_inj _) a b h
noncomputable def seinekeep_Size (v0 : GValue) : Option Int := tO O 24 [(.agg [(.int .i64 v0.kind), (.int .i64 v0.n), (.str v0.s), (.slice (List.map encValue v0.l) [] false), (.slice (List.map encMember v0.m) [] false)])] [] fun r => (seinekeep_SizeE r, [])
theorem seinekeep_Size_spec {v0 : GValue} {r : Int} (h : seinekeep_Size v0 = some r) : O 24 [(.agg [(.int .i64 v0.kind), (.int .i64 v0.n), (.str v0.s), (.slice (List.map encValue v0.l) [] false), (.slice (List.map encMember v0.m) [] false)])] [] = some (seinekeep_SizeE r, []) := tO_spec (enc := fun r => (seinekeep_SizeE r, [])) h
def defs_addE : (List Str) → PV := fun r => .slice (List.map PV.str r) [] true
theorem defs_addEj (a b : List Str) (h : defs_addE a = defs_addE b) : a = b := Ev.encSlO_inj Ev.str_inj a b h
noncomputable def defs_add (l0 : List Str) (name : Str) : Option (List Str) := tO O 81 [(.slice (List.map PV.str l0) [] true), (.str name)] [] fun r => (defs_addE r, [])
theorem defs_add_spec {l0 : List Str} {name : Str} {r : List Str} (h : defs_add l0 name = some r) : O 81 [(.slice (List.map PV.str l0) [] true), (.str name)] [] = some (defs_addE r, []) := tO_spec (enc := fun r => (defs_addE r, [])) h
def defs_scalarE : Bool → PV := fun r => PV.bool r
theorem defs_scalarEj (a b : Bool) (h : defs_scalarE a = defs_scalarE b) : a = b := Ev.bool_inj a b h
noncomputable def defs_scalar (name : Str) : Option Bool := tO O 85 [(.str name)] [] fun r => (defs_scalarE r, [])
theorem defs_scalar_spec {name : Str} {r : Bool} (h : defs_scalar name = some r) : O 85 [(.str name)] [] = some (defs_scalarE r, []) := tO_spec (enc := fun r => (defs_scalarE r, [])) h
def slices_Index_string_stringE : Int → PV := fun r => (PV.int .i64) r
theorem slices_Index_string_stringEj (a b : Int) (h : slices_Index_string_stringE a = slices_Index_string_stringE b) : a = b := (Ev.int_inj _) a b h
noncomputable def slices_Index_string_string (s : List Str) (v0 : Str) : Option Int := tO O 86 [(.slice (List.map PV.str s) [] false), (.str v0)] [] fun r => (slices_Index_string_stringE r, [])
theorem slices_Index_string_string_spec {s : List Str} {v0 : Str} {r : Int} (h : slices_Index_string_string s v0 = some r) : O 86 [(.slice (List.map PV.str s) [] false), (.str v0)] [] = some (slices_Index_string_stringE r, []) := tO_spec (enc := fun r => (slices_Index_string_stringE r, [])) h
def slices_Contains_int_intE : Bool → PV := fun r => PV.bool r
theorem slices_Contains_int_intEj (a b : Bool) (h : slices_Contains_int_intE a = slices_Contains_int_intE b) : a = b := Ev.bool_inj a b h
noncomputable def slices_Contains_int_int (s : List Int) (v0 : Int) : Option Bool := tO O 87 [(.slice (List.map (PV.int .i64) s) [] false), (.int .i64 v0)] [] fun r => (slices_Contains_int_intE r, [])
theorem slices_Contains_int_int_spec {s : List Int} {v0 : Int} {r : Bool} (h : slices_Contains_int_int s v0 = some r) : O 87 [(.slice (List.map (PV.int .i64) s) [] false), (.int .i64 v0)] [] = some (slices_Contains_int_intE r, []) := tO_spec (enc := fun r => (slices_Contains_int_intE r, [])) h
def seineref1_NameE : Bool → PV := fun r => PV.bool r
theorem seineref1_NameEj (a b : Bool) (h : seineref1_NameE a = seineref1_NameE b) : a = b := Ev.bool_inj a b h
noncomputable def seineref1_Name (s : Str) : Option Bool := tO O 88 [(.str s)] [] fun r => (seineref1_NameE r, [])
theorem seineref1_Name_spec {s : Str} {r : Bool} (h : seineref1_Name s = some r) : O 88 [(.str s)] [] = some (seineref1_NameE r, []) := tO_spec (enc := fun r => (seineref1_NameE r, [])) h
def seineref9_scalarE : Bool → PV := fun r => PV.bool r
theorem seineref9_scalarEj (a b : Bool) (h : seineref9_scalarE a = seineref9_scalarE b) : a = b := Ev.bool_inj a b h
noncomputable def seineref9_scalar (name : Str) : Option Bool := tO O 89 [(.str name)] [] fun r => (seineref9_scalarE r, [])
theorem seineref9_scalar_spec {name : Str} {r : Bool} (h : seineref9_scalar name = some r) : O 89 [(.str name)] [] = some (seineref9_scalarE r, []) := tO_spec (enc := fun r => (seineref9_scalarE r, [])) h
def seineref9_ObjectE : Bool → PV := fun r => PV.bool r
theorem seineref9_ObjectEj (a b : Bool) (h : seineref9_ObjectE a = seineref9_ObjectE b) : a = b := Ev.bool_inj a b h
noncomputable def seineref9_Object (s : GSchema) (name : Str) : Option Bool := tO O 90 [(.agg [(.slice (List.map encDef s.defs) [] false), (.str s.query), (.str s.mutation)]), (.str name)] [] fun r => (seineref9_ObjectE r, [])
theorem seineref9_Object_spec {s : GSchema} {name : Str} {r : Bool} (h : seineref9_Object s name = some r) : O 90 [(.agg [(.slice (List.map encDef s.defs) [] false), (.str s.query), (.str s.mutation)]), (.str name)] [] = some (seineref9_ObjectE r, []) := tO_spec (enc := fun r => (seineref9_ObjectE r, [])) h
def letters_LetterE : Bool → PV := fun r => PV.bool r
theorem letters_LetterEj (a b : Bool) (h : letters_LetterE a = letters_LetterE b) : a = b := Ev.bool_inj a b h
noncomputable def letters_Letter (c : Int) : Option Bool := tO O 91 [(.int .u8 c)] [] fun r => (letters_LetterE r, [])
theorem letters_Letter_spec {c : Int} {r : Bool} (h : letters_Letter c = some r) : O 91 [(.int .u8 c)] [] = some (letters_LetterE r, []) := tO_spec (enc := fun r => (letters_LetterE r, [])) h
def letters_DigitE : Bool → PV := fun r => PV.bool r
theorem letters_DigitEj (a b : Bool) (h : letters_DigitE a = letters_DigitE b) : a = b := Ev.bool_inj a b h
noncomputable def letters_Digit (c : Int) : Option Bool := tO O 92 [(.int .u8 c)] [] fun r => (letters_DigitE r, [])
theorem letters_Digit_spec {c : Int} {r : Bool} (h : letters_Digit c = some r) : O 92 [(.int .u8 c)] [] = some (letters_DigitE r, []) := tO_spec (enc := fun r => (letters_DigitE r, [])) h
def slices_Index_int_intE : Int → PV := fun r => (PV.int .i64) r
theorem slices_Index_int_intEj (a b : Int) (h : slices_Index_int_intE a = slices_Index_int_intE b) : a = b := (Ev.int_inj _) a b h
noncomputable def slices_Index_int_int (s : List Int) (v0 : Int) : Option Int := tO O 111 [(.slice (List.map (PV.int .i64) s) [] false), (.int .i64 v0)] [] fun r => (slices_Index_int_intE r, [])
theorem slices_Index_int_int_spec {s : List Int} {v0 : Int} {r : Int} (h : slices_Index_int_int s v0 = some r) : O 111 [(.slice (List.map (PV.int .i64) s) [] false), (.int .i64 v0)] [] = some (slices_Index_int_intE r, []) := tO_spec (enc := fun r => (slices_Index_int_intE r, [])) h
def seineref1_startE : Bool → PV := fun r => PV.bool r
theorem seineref1_startEj (a b : Bool) (h : seineref1_startE a = seineref1_startE b) : a = b := Ev.bool_inj a b h
noncomputable def seineref1_start (c : Int) : Option Bool := tO O 112 [(.int .u8 c)] [] fun r => (seineref1_startE r, [])
theorem seineref1_start_spec {c : Int} {r : Bool} (h : seineref1_start c = some r) : O 112 [(.int .u8 c)] [] = some (seineref1_startE r, []) := tO_spec (enc := fun r => (seineref1_startE r, [])) h
def seineref1_digitE : Bool → PV := fun r => PV.bool r
theorem seineref1_digitEj (a b : Bool) (h : seineref1_digitE a = seineref1_digitE b) : a = b := Ev.bool_inj a b h
noncomputable def seineref1_digit (c : Int) : Option Bool := tO O 113 [(.int .u8 c)] [] fun r => (seineref1_digitE r, [])
theorem seineref1_digit_spec {c : Int} {r : Bool} (h : seineref1_digit c = some r) : O 113 [(.int .u8 c)] [] = some (seineref1_digitE r, []) := tO_spec (enc := fun r => (seineref1_digitE r, [])) h
def seineref9_isE : Bool → PV := fun r => PV.bool r
theorem seineref9_isEj (a b : Bool) (h : seineref9_isE a = seineref9_isE b) : a = b := Ev.bool_inj a b h
noncomputable def seineref9_is (s : GSchema) (name : Str) (a : Int) (b : Int) (c : Int) : Option Bool := tO O 114 [(.agg [(.slice (List.map encDef s.defs) [] false), (.str s.query), (.str s.mutation)]), (.str name), (.int .i64 a), (.int .i64 b), (.int .i64 c)] [] fun r => (seineref9_isE r, [])
theorem seineref9_is_spec {s : GSchema} {name : Str} {a : Int} {b : Int} {c : Int} {r : Bool} (h : seineref9_is s name a b c = some r) : O 114 [(.agg [(.slice (List.map encDef s.defs) [] false), (.str s.query), (.str s.mutation)]), (.str name), (.int .i64 a), (.int .i64 b), (.int .i64 c)] [] = some (seineref9_isE r, []) := tO_spec (enc := fun r => (seineref9_isE r, [])) h
end Go.Proofs.Ytgelaiohnmpjnaa

/- Printed by frames.py: the types' readings. -/
set_option linter.unusedVariables false
set_option linter.unusedSimpArgs false
open Go Go.Ev Go.Ev.PV
namespace Go.Proofs.Ytgelaiohnmpjnaa
def bkType (x : GType) : Nat := (bkStr x.name + (bk1 x.lists + (bk1 x.musts + (0)))) + 1
def gdType (x : GType) : Prop := gd1 x.name ∧ ((gdI .i64) x.lists ∧ ((gdI .i64) x.musts ∧ (True)))
theorem bkType_eq (x : GType) : bkType x = (bkStr x.name + (bk1 x.lists + (bk1 x.musts + (0)))) + 1 := rfl
theorem gdType_eq (x : GType) : gdType x = (gd1 x.name ∧ ((gdI .i64) x.lists ∧ ((gdI .i64) x.musts ∧ (True)))) := rfl
mutual
def bkValue : GValue → Nat
  | ⟨x0, x1, x2, x3, x4⟩ => (bk1 x0 + (bk1 x1 + (bkStr x2 + ((bkValues x3 + 1) + ((bkMembers x4 + 1) + (0)))))) + 1
def bkMember : GMember → Nat
  | ⟨x0, x1⟩ => (bkStr x0 + (bkValue x1 + (0))) + 1
def bkValues : List GValue → Nat
  | [] => 0
  | x :: l => bkValue x + bkValues l
def bkMembers : List GMember → Nat
  | [] => 0
  | x :: l => bkMember x + bkMembers l
end
mutual
def gdValue : GValue → Prop
  | ⟨x0, x1, x2, x3, x4⟩ => (gdI .i64) x0 ∧ ((gdI .i64) x1 ∧ (gd1 x2 ∧ (gdValues x3 ∧ (gdMembers x4 ∧ (True)))))
def gdMember : GMember → Prop
  | ⟨x0, x1⟩ => gd1 x0 ∧ (gdValue x1 ∧ (True))
def gdValues : List GValue → Prop
  | [] => True
  | x :: l => gdValue x ∧ gdValues l
def gdMembers : List GMember → Prop
  | [] => True
  | x :: l => gdMember x ∧ gdMembers l
end
theorem bkValues_eq : ∀ (l : List GValue), bkValues l = sumL bkValue l
  | [] => by simp only [bkValues, sumL]
  | x :: l => by simp only [bkValues, sumL, bkValues_eq l]
theorem gdValues_eq : ∀ (l : List GValue), gdValues l = gdSl gdValue l
  | [] => by simp [gdValues, gdSl]
  | x :: l => by simp [gdValues, gdSl, gdValues_eq l]
theorem bkMembers_eq : ∀ (l : List GMember), bkMembers l = sumL bkMember l
  | [] => by simp only [bkMembers, sumL]
  | x :: l => by simp only [bkMembers, sumL, bkMembers_eq l]
theorem gdMembers_eq : ∀ (l : List GMember), gdMembers l = gdSl gdMember l
  | [] => by simp [gdMembers, gdSl]
  | x :: l => by simp [gdMembers, gdSl, gdMembers_eq l]
theorem bkValue_eq (x : GValue) : bkValue x = (bk1 x.kind + (bk1 x.n + (bkStr x.s + ((bkSl bkValue) x.l + ((bkSl bkMember) x.m + (0)))))) + 1 := by
  cases x; simp only [bkValue, bkSl, bkValues_eq, bkMembers_eq]
theorem gdValue_eq (x : GValue) : gdValue x = ((gdI .i64) x.kind ∧ ((gdI .i64) x.n ∧ (gd1 x.s ∧ ((gdSl gdValue) x.l ∧ ((gdSl gdMember) x.m ∧ (True)))))) := by
  cases x; simp only [gdValue, gdValues_eq, gdMembers_eq]
theorem bkMember_eq (x : GMember) : bkMember x = (bkStr x.name + (bkValue x.v + (0))) + 1 := by
  cases x; simp only [bkMember, bkSl, bkValues_eq, bkMembers_eq]
theorem gdMember_eq (x : GMember) : gdMember x = (gd1 x.name ∧ (gdValue x.v ∧ (True))) := by
  cases x; simp only [gdMember, gdValues_eq, gdMembers_eq]
def bkParam (x : GParam) : Nat := (bkStr x.name + (bkType x.t + (bk1 x.has + (bkValue x.default + (0))))) + 1
def gdParam (x : GParam) : Prop := gd1 x.name ∧ (gdType x.t ∧ (gd1 x.has ∧ (gdValue x.default ∧ (True))))
theorem bkParam_eq (x : GParam) : bkParam x = (bkStr x.name + (bkType x.t + (bk1 x.has + (bkValue x.default + (0))))) + 1 := rfl
theorem gdParam_eq (x : GParam) : gdParam x = (gd1 x.name ∧ (gdType x.t ∧ (gd1 x.has ∧ (gdValue x.default ∧ (True))))) := rfl
def bkDir (x : GDir) : Nat := (bkStr x.name + ((bkSl bkMember) x.args + (0))) + 1
def gdDir (x : GDir) : Prop := gd1 x.name ∧ ((gdSl gdMember) x.args ∧ (True))
theorem bkDir_eq (x : GDir) : bkDir x = (bkStr x.name + ((bkSl bkMember) x.args + (0))) + 1 := rfl
theorem gdDir_eq (x : GDir) : gdDir x = (gd1 x.name ∧ ((gdSl gdMember) x.args ∧ (True))) := rfl
def bkFieldDef (x : GFieldDef) : Nat := (bkStr x.name + ((bkSl bkParam) x.params + (bkType x.t + ((bkSl bkDir) x.dirs + (0))))) + 1
def gdFieldDef (x : GFieldDef) : Prop := gd1 x.name ∧ ((gdSl gdParam) x.params ∧ (gdType x.t ∧ ((gdSl gdDir) x.dirs ∧ (True))))
theorem bkFieldDef_eq (x : GFieldDef) : bkFieldDef x = (bkStr x.name + ((bkSl bkParam) x.params + (bkType x.t + ((bkSl bkDir) x.dirs + (0))))) + 1 := rfl
theorem gdFieldDef_eq (x : GFieldDef) : gdFieldDef x = (gd1 x.name ∧ ((gdSl gdParam) x.params ∧ (gdType x.t ∧ ((gdSl gdDir) x.dirs ∧ (True))))) := rfl
def bkDef (x : GDef) : Nat := (bk1 x.kind + (bkStr x.name + ((bkSl bkStr) x.faces + ((bkSl bkFieldDef) x.fields + ((bkSl bkStr) x.parts + ((bkSl bkParam) x.params + (0))))))) + 1
def gdDef (x : GDef) : Prop := (gdI .i64) x.kind ∧ (gd1 x.name ∧ ((gdSl gd1) x.faces ∧ ((gdSl gdFieldDef) x.fields ∧ ((gdSl gd1) x.parts ∧ ((gdSl gdParam) x.params ∧ (True))))))
theorem bkDef_eq (x : GDef) : bkDef x = (bk1 x.kind + (bkStr x.name + ((bkSl bkStr) x.faces + ((bkSl bkFieldDef) x.fields + ((bkSl bkStr) x.parts + ((bkSl bkParam) x.params + (0))))))) + 1 := rfl
theorem gdDef_eq (x : GDef) : gdDef x = ((gdI .i64) x.kind ∧ (gd1 x.name ∧ ((gdSl gd1) x.faces ∧ ((gdSl gdFieldDef) x.fields ∧ ((gdSl gd1) x.parts ∧ ((gdSl gdParam) x.params ∧ (True))))))) := rfl
def bkSchema (x : GSchema) : Nat := ((bkSl bkDef) x.defs + (bkStr x.query + (bkStr x.mutation + (0)))) + 1
def gdSchema (x : GSchema) : Prop := (gdSl gdDef) x.defs ∧ (gd1 x.query ∧ (gd1 x.mutation ∧ (True)))
theorem bkSchema_eq (x : GSchema) : bkSchema x = ((bkSl bkDef) x.defs + (bkStr x.query + (bkStr x.mutation + (0)))) + 1 := rfl
theorem gdSchema_eq (x : GSchema) : gdSchema x = ((gdSl gdDef) x.defs ∧ (gd1 x.query ∧ (gd1 x.mutation ∧ (True)))) := rfl
def TS : Nat → TypeId
  | 0 => 32
  | 1 => 47
  | 2 => 65
  | 3 => 76
  | 4 => 67
  | 5 => 91
  | 6 => 87
  | _ => 30
def BS : Nat → Ty
  | 0 => (.fcons .str (.fcons (.int .i64) (.fcons (.int .i64) .fnil)))
  | 1 => (.fcons (.int .i64) (.fcons (.int .i64) (.fcons .str (.fcons (.sl (.ext 1)) (.fcons (.sl (.ext 2)) .fnil)))))
  | 2 => (.fcons .str (.fcons (.ext 1) .fnil))
  | 3 => (.fcons .str (.fcons (.ext 0) (.fcons .bool (.fcons (.ext 1) .fnil))))
  | 4 => (.fcons .str (.fcons (.sl (.ext 2)) .fnil))
  | 5 => (.fcons .str (.fcons (.sl (.ext 3)) (.fcons (.ext 0) (.fcons (.sl (.ext 4)) .fnil))))
  | 6 => (.fcons (.int .i64) (.fcons .str (.fcons (.sl .str) (.fcons (.sl (.ext 5)) (.fcons (.sl .str) (.fcons (.sl (.ext 3)) .fnil))))))
  | _ => (.fcons (.sl (.ext 6)) (.fcons .str (.fcons .str .fnil)))
abbrev recType : RecTy := ⟨GType, encType, 3, bkType, gdType, fun x => wf_agg _ (encType_eq x) rfl rfl⟩
abbrev recValue : RecTy := ⟨GValue, encValue, 5, bkValue, gdValue, fun x => wf_agg _ (encValue_eq x) rfl rfl⟩
abbrev recMember : RecTy := ⟨GMember, encMember, 6, bkMember, gdMember, fun x => wf_agg _ (encMember_eq x) rfl rfl⟩
abbrev recParam : RecTy := ⟨GParam, encParam, 10, bkParam, gdParam, fun x => wf_agg _ (encParam_eq x) rfl rfl⟩
abbrev recDir : RecTy := ⟨GDir, encDir, 2, bkDir, gdDir, fun x => wf_agg _ (encDir_eq x) rfl rfl⟩
abbrev recFieldDef : RecTy := ⟨GFieldDef, encFieldDef, 6, bkFieldDef, gdFieldDef, fun x => wf_agg _ (encFieldDef_eq x) rfl rfl⟩
abbrev recDef : RecTy := ⟨GDef, encDef, 6, bkDef, gdDef, fun x => wf_agg _ (encDef_eq x) rfl rfl⟩
abbrev recSchema : RecTy := ⟨GSchema, encSchema, 3, bkSchema, gdSchema, fun x => wf_agg _ (encSchema_eq x) rfl rfl⟩
abbrev RS : REnv
  | 0 => recType
  | 1 => recValue
  | 2 => recMember
  | 3 => recParam
  | 4 => recDir
  | 5 => recFieldDef
  | 6 => recDef
  | _ => recSchema
theorem hty : ∀ i, ∃ F, Try.prog.underlying (TS i) = some (.struct F) ∧ Try.prog.cellsOf (TS i) = (BS i).size RS ∧ flds RS Try.prog (tyOk RS TS Try.prog 9) F.toList 0 (BS i) = true
  | 0 => ⟨_, Try.underlying32, by kernel_rfl, by kernel_rfl⟩
  | 1 => ⟨_, Try.underlying47, by kernel_rfl, by kernel_rfl⟩
  | 2 => ⟨_, Try.underlying65, by kernel_rfl, by kernel_rfl⟩
  | 3 => ⟨_, Try.underlying76, by kernel_rfl, by kernel_rfl⟩
  | 4 => ⟨_, Try.underlying67, by kernel_rfl, by kernel_rfl⟩
  | 5 => ⟨_, Try.underlying91, by kernel_rfl, by kernel_rfl⟩
  | 6 => ⟨_, Try.underlying87, by kernel_rfl, by kernel_rfl⟩
  | _ + 7 => ⟨_, Try.underlying30, by kernel_rfl, by kernel_rfl⟩
theorem cvType (x0 : Str) (x1 : Int) (x2 : Int) : encType ⟨x0, x1, x2⟩ = (PV.agg ((PV.str x0).cells ++ (PV.agg (((PV.int .i64) x1).cells ++ (PV.agg (((PV.int .i64) x2).cells ++ (PV.agg []).cells)).cells)).cells)) := by
  simp only [tys, cells, List.cons_append, List.nil_append]
theorem cvValue (x0 : Int) (x1 : Int) (x2 : Str) (x3 : List GValue) (x4 : List GMember) : encValue ⟨x0, x1, x2, x3, x4⟩ = (PV.agg (((PV.int .i64) x0).cells ++ (PV.agg (((PV.int .i64) x1).cells ++ (PV.agg ((PV.str x2).cells ++ (PV.agg ((PV.slice (List.map encValue x3) [] false).cells ++ (PV.agg ((PV.slice (List.map encMember x4) [] false).cells ++ (PV.agg []).cells)).cells)).cells)).cells)).cells)) := by
  simp only [tys, cells, List.cons_append, List.nil_append]
theorem cvMember (x0 : Str) (x1 : GValue) : encMember ⟨x0, x1⟩ = (PV.agg ((PV.str x0).cells ++ (PV.agg ((encValue x1).cells ++ (PV.agg []).cells)).cells)) := by
  simp only [tys, cells, List.cons_append, List.nil_append]
theorem cvParam (x0 : Str) (x1 : GType) (x2 : Bool) (x3 : GValue) : encParam ⟨x0, x1, x2, x3⟩ = (PV.agg ((PV.str x0).cells ++ (PV.agg ((encType x1).cells ++ (PV.agg ((PV.bool x2).cells ++ (PV.agg ((encValue x3).cells ++ (PV.agg []).cells)).cells)).cells)).cells)) := by
  simp only [tys, cells, List.cons_append, List.nil_append]
theorem cvDir (x0 : Str) (x1 : List GMember) : encDir ⟨x0, x1⟩ = (PV.agg ((PV.str x0).cells ++ (PV.agg ((PV.slice (List.map encMember x1) [] false).cells ++ (PV.agg []).cells)).cells)) := by
  simp only [tys, cells, List.cons_append, List.nil_append]
theorem cvFieldDef (x0 : Str) (x1 : List GParam) (x2 : GType) (x3 : List GDir) : encFieldDef ⟨x0, x1, x2, x3⟩ = (PV.agg ((PV.str x0).cells ++ (PV.agg ((PV.slice (List.map encParam x1) [] false).cells ++ (PV.agg ((encType x2).cells ++ (PV.agg ((PV.slice (List.map encDir x3) [] false).cells ++ (PV.agg []).cells)).cells)).cells)).cells)) := by
  simp only [tys, cells, List.cons_append, List.nil_append]
theorem cvDef (x0 : Int) (x1 : Str) (x2 : List Str) (x3 : List GFieldDef) (x4 : List Str) (x5 : List GParam) : encDef ⟨x0, x1, x2, x3, x4, x5⟩ = (PV.agg (((PV.int .i64) x0).cells ++ (PV.agg ((PV.str x1).cells ++ (PV.agg ((PV.slice (List.map PV.str x2) [] false).cells ++ (PV.agg ((PV.slice (List.map encFieldDef x3) [] false).cells ++ (PV.agg ((PV.slice (List.map PV.str x4) [] false).cells ++ (PV.agg ((PV.slice (List.map encParam x5) [] false).cells ++ (PV.agg []).cells)).cells)).cells)).cells)).cells)).cells)) := by
  simp only [tys, cells, List.cons_append, List.nil_append]
theorem cvSchema (x0 : List GDef) (x1 : Str) (x2 : Str) : encSchema ⟨x0, x1, x2⟩ = (PV.agg ((PV.slice (List.map encDef x0) [] false).cells ++ (PV.agg ((PV.str x1).cells ++ (PV.agg ((PV.str x2).cells ++ (PV.agg []).cells)).cells)).cells)) := by
  simp only [tys, cells, List.cons_append, List.nil_append]
theorem hcv : ∀ i (x : (BS i).den RS), ∃ y : (RS i).D, (RS i).en y = enc RS (BS i) x ∧ (RS i).bk y ≤ bulk RS (BS i) x + 1 ∧ (good RS (BS i) x → (RS i).gd y)
  | 0, ⟨x0, x1, x2, _⟩ => ⟨(⟨x0, x1, x2⟩ : GType), (cvType x0 x1 x2).trans rfl, Nat.le_of_eq ((bkType_eq _).trans rfl), fun h => (gdType_eq _).mpr h⟩
  | 1, ⟨x0, x1, x2, x3, x4, _⟩ => ⟨(⟨x0, x1, x2, x3, x4⟩ : GValue), (cvValue x0 x1 x2 x3 x4).trans rfl, Nat.le_of_eq ((bkValue_eq _).trans rfl), fun h => (gdValue_eq _).mpr h⟩
  | 2, ⟨x0, x1, _⟩ => ⟨(⟨x0, x1⟩ : GMember), (cvMember x0 x1).trans rfl, Nat.le_of_eq ((bkMember_eq _).trans rfl), fun h => (gdMember_eq _).mpr h⟩
  | 3, ⟨x0, x1, x2, x3, _⟩ => ⟨(⟨x0, x1, x2, x3⟩ : GParam), (cvParam x0 x1 x2 x3).trans rfl, Nat.le_of_eq ((bkParam_eq _).trans rfl), fun h => (gdParam_eq _).mpr h⟩
  | 4, ⟨x0, x1, _⟩ => ⟨(⟨x0, x1⟩ : GDir), (cvDir x0 x1).trans rfl, Nat.le_of_eq ((bkDir_eq _).trans rfl), fun h => (gdDir_eq _).mpr h⟩
  | 5, ⟨x0, x1, x2, x3, _⟩ => ⟨(⟨x0, x1, x2, x3⟩ : GFieldDef), (cvFieldDef x0 x1 x2 x3).trans rfl, Nat.le_of_eq ((bkFieldDef_eq _).trans rfl), fun h => (gdFieldDef_eq _).mpr h⟩
  | 6, ⟨x0, x1, x2, x3, x4, x5, _⟩ => ⟨(⟨x0, x1, x2, x3, x4, x5⟩ : GDef), (cvDef x0 x1 x2 x3 x4 x5).trans rfl, Nat.le_of_eq ((bkDef_eq _).trans rfl), fun h => (gdDef_eq _).mpr h⟩
  | _ + 7, ⟨x0, x1, x2, _⟩ => ⟨(⟨x0, x1, x2⟩ : GSchema), (cvSchema x0 x1 x2).trans rfl, Nat.le_of_eq ((bkSchema_eq _).trans rfl), fun h => (gdSchema_eq _).mpr h⟩
theorem rok {H : Type} (e : TypeId × Value → H) (W : World) {bl : DataW H → Nat} {bla : List (DataW H) → Nat} (hb : BlOk bl bla) : ROk RS TS e Try.prog W bl where
  op := open_ext hb 9 BS hty hcv
  ag := fun i => match i with
    | 0 => fun x => ⟨_, encType_eq x⟩
    | 1 => fun x => ⟨_, encValue_eq x⟩
    | 2 => fun x => ⟨_, encMember_eq x⟩
    | 3 => fun x => ⟨_, encParam_eq x⟩
    | 4 => fun x => ⟨_, encDir_eq x⟩
    | 5 => fun x => ⟨_, encFieldDef_eq x⟩
    | 6 => fun x => ⟨_, encDef_eq x⟩
    | _ + 7 => fun x => ⟨_, encSchema_eq x⟩
  st := fun i => (hty i).imp fun F h => h.1
end Go.Proofs.Ytgelaiohnmpjnaa
