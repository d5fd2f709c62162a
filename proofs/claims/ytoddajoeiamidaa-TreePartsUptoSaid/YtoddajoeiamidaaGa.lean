import Derived.Test.YtoddajoeiamidaaEd
import Derived.Test.YtoddajoeiamidaaRows
import Derived.KernelRfl
set_option linter.unusedVariables false
set_option linter.unusedSimpArgs false
/- Printed by symgen.py: what the functions of this seat compute, as typed functions, and why. -/
set_option linter.unusedVariables false
set_option linter.unusedSimpArgs false
open Go Go.Ev Go.Ev.PV
namespace Go.Proofs.Ytoddajoeiamidaa
structure GType where
  name : Str
  lists : Int
  musts : Int

mutual
structure GValue where
  kind : Int
  n : Int
  s : Str
  l : List GValue
  m : List GMember

structure GMember where
  name : Str
  v : GValue

end
structure GVarDef where
  name : Str
  t : GType
  has : Bool
  default : GValue

structure GNode where
  kind : Int
  must : Bool
  v : GValue
  keys : List Str
  l : List GNode

structure GStep where
  name : Str
  at_ : Int

def shType : Sh := .agg [.str, (.int .i64), (.int .i64)]
def shValue : Sh := .agg [(.int .i64), (.int .i64), .str, (.sl false), (.sl false)]
def shMember : Sh := .agg [.str, (.int .i64), (.int .i64), .str, (.sl false), (.sl false)]
def shVarDef : Sh := .agg [.str, .str, (.int .i64), (.int .i64), .bool, (.int .i64), (.int .i64), .str, (.sl false), (.sl false)]
def shNode : Sh := .agg [(.int .i64), .bool, (.int .i64), (.int .i64), .str, (.sl false), (.sl false), (.sl false), (.sl false)]
def shStep : Sh := .agg [.str, (.int .i64)]
def encType (x : GType) : PV := .agg [.str x.name, .int .i64 x.lists, .int .i64 x.musts]
theorem encType_eq (x : GType) : encType x = .agg [.str x.name, .int .i64 x.lists, .int .i64 x.musts] := rfl
theorem chk_GType (x : GType) : chk shType (encType x) = true := by rw [encType_eq]; rfl
theorem inj_GType (a b : GType) (h : encType a = encType b) : a = b := by
  simp only [encType_eq, PV.agg.injEq, List.cons.injEq, PV.slice.injEq, PV.str.injEq, PV.int.injEq, PV.bool.injEq, true_and, and_true] at h
  obtain ⟨a0, a1, a2⟩ := a
  obtain ⟨b0, b1, b2⟩ := b
  dsimp only at h
  have e0 := h.1
  have e1 := h.2.1
  have e2 := h.2.2
  subst e0 e1 e2
  rfl
mutual
def encValue : GValue → PV
  | ⟨x0, x1, x2, x3, x4⟩ => .agg ([.int .i64 x0, .int .i64 x1, .str x2, .slice (encValues x3) [] false, .slice (encMembers x4) [] false])
def encMember : GMember → PV
  | ⟨x0, x1⟩ => .agg ([.str x0] ++ (encValue x1).cells)
def encValues : List GValue → List PV
  | [] => []
  | x :: l => encValue x :: encValues l
def encMembers : List GMember → List PV
  | [] => []
  | x :: l => encMember x :: encMembers l
end
theorem encValues_eq : ∀ (l : List GValue), encValues l = List.map encValue l
  | [] => by simp only [encValues, List.map]
  | x :: l => by simp only [encValues, List.map, encValues_eq l]
theorem encMembers_eq : ∀ (l : List GMember), encMembers l = List.map encMember l
  | [] => by simp only [encMembers, List.map]
  | x :: l => by simp only [encMembers, List.map, encMembers_eq l]
theorem encValue_eq (x : GValue) : encValue x = .agg [.int .i64 x.kind, .int .i64 x.n, .str x.s, .slice (List.map encValue x.l) [] false, .slice (List.map encMember x.m) [] false] := by
  cases x; simp only [encValue, cells, List.cons_append, List.nil_append, encValues_eq, encMembers_eq]
theorem encMember_eq (x : GMember) : encMember x = .agg [.str x.name, .int .i64 x.v.kind, .int .i64 x.v.n, .str x.v.s, .slice (List.map encValue x.v.l) [] false, .slice (List.map encMember x.v.m) [] false] := by
  cases x; simp only [encMember, cells, List.cons_append, List.nil_append, encValues_eq, encMembers_eq, encValue_eq]
theorem chk_GValue (x : GValue) : chk shValue (encValue x) = true := by rw [encValue_eq]; rfl
theorem chk_GMember (x : GMember) : chk shMember (encMember x) = true := by rw [encMember_eq]; rfl
mutual
theorem inj_GValue : ∀ (a b : GValue), encValue a = encValue b → a = b
  | ⟨a0, a1, a2, a3, a4⟩, ⟨b0, b1, b2, b3, b4⟩, h => by
    simp only [encValue, PV.agg.injEq, List.cons.injEq, List.append_eq, PV.slice.injEq, PV.str.injEq, PV.int.injEq, PV.bool.injEq, true_and, and_true] at h
    have e0 := h.1
    have e1 := h.2.1
    have e2 := h.2.2.1
    have e3 := inj_GValues _ _ h.2.2.2.1
    have e4 := inj_GMembers _ _ h.2.2.2.2
    subst e0 e1 e2 e3 e4
    rfl
theorem inj_GMember : ∀ (a b : GMember), encMember a = encMember b → a = b
  | ⟨a0, a1⟩, ⟨b0, b1⟩, h => by
    simp only [encMember, PV.agg.injEq, List.cons_append, List.nil_append, List.cons.injEq, PV.slice.injEq, PV.str.injEq, PV.int.injEq, PV.bool.injEq, true_and, and_true] at h
    have e0 := h.1
    have e1 := inj_GValue a1 b1 (by
      have h' := h.2
      cases a1; cases b1; simp only [encValue, cells] at h' ⊢; rw [h'])
    subst e0 e1
    rfl
theorem inj_GValues : ∀ (a b : List GValue), encValues a = encValues b → a = b
  | [], [], _ => rfl
  | [], _ :: _, h => by simp [encValues] at h
  | _ :: _, [], h => by simp [encValues] at h
  | x :: l, y :: m, h => by
    simp only [encValues, List.cons.injEq] at h
    rw [inj_GValue x y h.1, inj_GValues l m h.2]
theorem inj_GMembers : ∀ (a b : List GMember), encMembers a = encMembers b → a = b
  | [], [], _ => rfl
  | [], _ :: _, h => by simp [encMembers] at h
  | _ :: _, [], h => by simp [encMembers] at h
  | x :: l, y :: m, h => by
    simp only [encMembers, List.cons.injEq] at h
    rw [inj_GMember x y h.1, inj_GMembers l m h.2]
end
def encVarDef (x : GVarDef) : PV := .agg [.str x.name, .str x.t.name, .int .i64 x.t.lists, .int .i64 x.t.musts, .bool x.has, .int .i64 x.default.kind, .int .i64 x.default.n, .str x.default.s, .slice (List.map encValue x.default.l) [] false, .slice (List.map encMember x.default.m) [] false]
theorem encVarDef_eq (x : GVarDef) : encVarDef x = .agg [.str x.name, .str x.t.name, .int .i64 x.t.lists, .int .i64 x.t.musts, .bool x.has, .int .i64 x.default.kind, .int .i64 x.default.n, .str x.default.s, .slice (List.map encValue x.default.l) [] false, .slice (List.map encMember x.default.m) [] false] := rfl
theorem chk_GVarDef (x : GVarDef) : chk shVarDef (encVarDef x) = true := by rw [encVarDef_eq]; rfl
theorem inj_GVarDef (a b : GVarDef) (h : encVarDef a = encVarDef b) : a = b := by
  simp only [encVarDef_eq, PV.agg.injEq, List.cons.injEq, PV.slice.injEq, PV.str.injEq, PV.int.injEq, PV.bool.injEq, true_and, and_true] at h
  obtain ⟨a0, ⟨a1, a2, a3⟩, a4, ⟨a5, a6, a7, a8, a9⟩⟩ := a
  obtain ⟨b0, ⟨b1, b2, b3⟩, b4, ⟨b5, b6, b7, b8, b9⟩⟩ := b
  dsimp only at h
  have e0 := h.1
  have e1 := h.2.1
  have e2 := h.2.2.1
  have e3 := h.2.2.2.1
  have e4 := h.2.2.2.2.1
  have e5 := h.2.2.2.2.2.1
  have e6 := h.2.2.2.2.2.2.1
  have e7 := h.2.2.2.2.2.2.2.1
  have e8 := map_inj' inj_GValue h.2.2.2.2.2.2.2.2.1
  have e9 := map_inj' inj_GMember h.2.2.2.2.2.2.2.2.2
  subst e0 e1 e2 e3 e4 e5 e6 e7 e8 e9
  rfl
mutual
def encNode : GNode → PV
  | ⟨x0, x1, x2, x3, x4⟩ => .agg ([.int .i64 x0, .bool x1, .int .i64 x2.kind, .int .i64 x2.n, .str x2.s, .slice (List.map encValue x2.l) [] false, .slice (List.map encMember x2.m) [] false, .slice (List.map PV.str x3) [] false, .slice (encNodes x4) [] false])
def encNodes : List GNode → List PV
  | [] => []
  | x :: l => encNode x :: encNodes l
end
theorem encNodes_eq : ∀ (l : List GNode), encNodes l = List.map encNode l
  | [] => by simp only [encNodes, List.map]
  | x :: l => by simp only [encNodes, List.map, encNodes_eq l]
theorem encNode_eq (x : GNode) : encNode x = .agg [.int .i64 x.kind, .bool x.must, .int .i64 x.v.kind, .int .i64 x.v.n, .str x.v.s, .slice (List.map encValue x.v.l) [] false, .slice (List.map encMember x.v.m) [] false, .slice (List.map PV.str x.keys) [] false, .slice (List.map encNode x.l) [] false] := by
  cases x; simp only [encNode, cells, List.cons_append, List.nil_append, encNodes_eq]
theorem chk_GNode (x : GNode) : chk shNode (encNode x) = true := by rw [encNode_eq]; rfl
mutual
theorem inj_GNode : ∀ (a b : GNode), encNode a = encNode b → a = b
  | ⟨a0, a1, a2, a3, a4⟩, ⟨b0, b1, b2, b3, b4⟩, h => by
    simp only [encNode, PV.agg.injEq, List.cons.injEq, List.append_eq, PV.slice.injEq, PV.str.injEq, PV.int.injEq, PV.bool.injEq, true_and, and_true] at h
    have e0 := h.1
    have e1 := h.2.1
    have e2 : a2 = b2 := by
      obtain ⟨c2_0, c2_1, c2_2, c2_3, c2_4⟩ := a2
      obtain ⟨d2_0, d2_1, d2_2, d2_3, d2_4⟩ := b2
      dsimp only at h
      have g0 := h.2.2.1
      have g1 := h.2.2.2.1
      have g2 := h.2.2.2.2.1
      have g3 := map_inj' inj_GValue h.2.2.2.2.2.1
      have g4 := map_inj' inj_GMember h.2.2.2.2.2.2.1
      subst g0 g1 g2 g3 g4
      rfl
    have e3 := map_inj' Ev.str_inj h.2.2.2.2.2.2.2.1
    have e4 := inj_GNodes _ _ h.2.2.2.2.2.2.2.2
    subst e0 e1 e2 e3 e4
    rfl
theorem inj_GNodes : ∀ (a b : List GNode), encNodes a = encNodes b → a = b
  | [], [], _ => rfl
  | [], _ :: _, h => by simp [encNodes] at h
  | _ :: _, [], h => by simp [encNodes] at h
  | x :: l, y :: m, h => by
    simp only [encNodes, List.cons.injEq] at h
    rw [inj_GNode x y h.1, inj_GNodes l m h.2]
end
def encStep (x : GStep) : PV := .agg [.str x.name, .int .i64 x.at_]
theorem encStep_eq (x : GStep) : encStep x = .agg [.str x.name, .int .i64 x.at_] := rfl
theorem chk_GStep (x : GStep) : chk shStep (encStep x) = true := by rw [encStep_eq]; rfl
theorem inj_GStep (a b : GStep) (h : encStep a = encStep b) : a = b := by
  simp only [encStep_eq, PV.agg.injEq, List.cons.injEq, PV.slice.injEq, PV.str.injEq, PV.int.injEq, PV.bool.injEq, true_and, and_true] at h
  obtain ⟨a0, a1⟩ := a
  obtain ⟨b0, b1⟩ := b
  dsimp only at h
  have e0 := h.1
  have e1 := h.2
  subst e0 e1
  rfl
theorem tys : (∀ x : GType, encType x = .agg [.str x.name, .int .i64 x.lists, .int .i64 x.musts]) ∧
    (∀ x : GValue, encValue x = .agg [.int .i64 x.kind, .int .i64 x.n, .str x.s, .slice (List.map encValue x.l) [] false, .slice (List.map encMember x.m) [] false]) ∧
    (∀ x : GMember, encMember x = .agg [.str x.name, .int .i64 x.v.kind, .int .i64 x.v.n, .str x.v.s, .slice (List.map encValue x.v.l) [] false, .slice (List.map encMember x.v.m) [] false]) ∧
    (∀ x : GVarDef, encVarDef x = .agg [.str x.name, .str x.t.name, .int .i64 x.t.lists, .int .i64 x.t.musts, .bool x.has, .int .i64 x.default.kind, .int .i64 x.default.n, .str x.default.s, .slice (List.map encValue x.default.l) [] false, .slice (List.map encMember x.default.m) [] false]) ∧
    (∀ x : GNode, encNode x = .agg [.int .i64 x.kind, .bool x.must, .int .i64 x.v.kind, .int .i64 x.v.n, .str x.v.s, .slice (List.map encValue x.v.l) [] false, .slice (List.map encMember x.v.m) [] false, .slice (List.map PV.str x.keys) [] false, .slice (List.map encNode x.l) [] false]) ∧
    (∀ x : GStep, encStep x = .agg [.str x.name, .int .i64 x.at_]) := ⟨encType_eq, encValue_eq, encMember_eq, encVarDef_eq, encNode_eq, encStep_eq⟩
theorem chks : (∀ x, chk shType (encType x) = true) ∧
    (∀ x, chk shValue (encValue x) = true) ∧
    (∀ x, chk shMember (encMember x) = true) ∧
    (∀ x, chk shVarDef (encVarDef x) = true) ∧
    (∀ x, chk shNode (encNode x) = true) ∧
    (∀ x, chk shStep (encStep x) = true) := ⟨chk_GType, chk_GValue, chk_GMember, chk_GVarDef, chk_GNode, chk_GStep⟩
end Go.Proofs.Ytoddajoeiamidaa

/- Printed by symgen.py: the functions, seen from outside. -/
set_option linter.unusedVariables false
set_option linter.unusedSimpArgs false
open Go Go.Ev Go.Ev.PV
namespace Go.Proofs.Ytoddajoeiamidaa
def MTL : List (Nat × Hints) := [(3, { takes := [], gens := [], keeps := [], own := false }),
  (4, { takes := [], gens := [], keeps := [], own := false }),
  (5, { takes := [], gens := [], keeps := [], own := false }),
  (6, { takes := [], gens := [], keeps := [], own := false }),
  (7, { takes := [], gens := [], keeps := [], own := false }),
  (8, { takes := [], gens := [], keeps := [(7, [0, 1, 5, 7, 9, 10]), (16, [0, 1, 4, 5, 7, 13])], own := false }),
  (9, { takes := [], gens := [], keeps := [(3, [1, 3, 4]), (7, [1, 3, 5])], own := false }),
  (10, { takes := [], gens := [], keeps := [], own := false }),
  (11, { takes := [], gens := [], keeps := [], own := false }),
  (12, { takes := [], gens := [], keeps := [], own := false }),
  (13, { takes := [], gens := [], keeps := [], own := false }),
  (14, { takes := [], gens := [], keeps := [], own := false }),
  (15, { takes := [], gens := [], keeps := [], own := false }),
  (16, { takes := [], gens := [], keeps := [(3, [1, 3, 4]), (7, [1, 3, 5])], own := false }),
  (17, { takes := [], gens := [], keeps := [], own := false }),
  (18, { takes := [], gens := [], keeps := [], own := false }),
  (19, { takes := [], gens := [], keeps := [], own := false }),
  (20, { takes := [], gens := [], keeps := [(4, [2, 3, 4, 5])], own := false }),
  (21, { takes := [], gens := [], keeps := [(7, [1, 2, 3])], own := false }),
  (22, { takes := [], gens := [], keeps := [(2, [2, 4, 5, 10, 11, 12])], own := false }),
  (23, { takes := [], gens := [], keeps := [], own := false }),
  (24, { takes := [], gens := [], keeps := [], own := false }),
  (25, { takes := [], gens := [], keeps := [], own := false }),
  (26, { takes := [], gens := [], keeps := [], own := false }),
  (27, { takes := [], gens := [], keeps := [], own := false }),
  (28, { takes := [], gens := [], keeps := [], own := false }),
  (29, { takes := [], gens := [], keeps := [(2, [0, 2, 5, 6])], own := false }),
  (30, { takes := [43, 53], gens := [], keeps := [(11, [1, 2, 3, 22, 23, 24])], own := false }),
  (31, { takes := [26], gens := [], keeps := [(3, [0, 2, 3, 4])], own := false }),
  (32, { takes := [40], gens := [], keeps := [(3, [0, 1, 4, 5, 6])], own := false }),
  (33, { takes := [], gens := [], keeps := [(4, [0, 1, 4, 5])], own := false }),
  (34, { takes := [], gens := [], keeps := [(2, [0, 4, 5, 8, 9, 10])], own := false }),
  (35, { takes := [], gens := [], keeps := [], own := false }),
  (36, { takes := [], gens := [], keeps := [], own := false }),
  (37, { takes := [], gens := [], keeps := [], own := false }),
  (38, { takes := [], gens := [], keeps := [], own := false }),
  (39, { takes := [], gens := [], keeps := [], own := false }),
  (40, { takes := [], gens := [], keeps := [(4, [0, 2, 3])], own := false }),
  (41, { takes := [], gens := [], keeps := [], own := false }),
  (42, { takes := [], gens := [], keeps := [], own := false })]
def MT (f : FuncId) : Hints := match Go.Ev.look MTL f with | some m => m | none => {}
def XT : Ext := fun _ => none
noncomputable def O : Orc := OL Try.prog MT XT
def seinelaw18_UsageAllowsE : Bool → PV := fun r => PV.bool r
theorem seinelaw18_UsageAllowsEj (a b : Bool) (h : seinelaw18_UsageAllowsE a = seinelaw18_UsageAllowsE b) : a = b := Ev.bool_inj a b h
noncomputable def seinelaw18_UsageAllows (v0 : GVarDef) (t : GType) (has0 : Bool) : Option Bool := tO O 3 [(.agg [(.str v0.name), (.str v0.t.name), (.int .i64 v0.t.lists), (.int .i64 v0.t.musts), (.bool v0.has), (.int .i64 v0.default.kind), (.int .i64 v0.default.n), (.str v0.default.s), (.slice (List.map encValue v0.default.l) [] false), (.slice (List.map encMember v0.default.m) [] false)]), (.agg [(.str t.name), (.int .i64 t.lists), (.int .i64 t.musts)]), (.bool has0)] [] fun r => (seinelaw18_UsageAllowsE r, [])
theorem seinelaw18_UsageAllows_spec {v0 : GVarDef} {t : GType} {has0 : Bool} {r : Bool} (h : seinelaw18_UsageAllows v0 t has0 = some r) : O 3 [(.agg [(.str v0.name), (.str v0.t.name), (.int .i64 v0.t.lists), (.int .i64 v0.t.musts), (.bool v0.has), (.int .i64 v0.default.kind), (.int .i64 v0.default.n), (.str v0.default.s), (.slice (List.map encValue v0.default.l) [] false), (.slice (List.map encMember v0.default.m) [] false)]), (.agg [(.str t.name), (.int .i64 t.lists), (.int .i64 t.musts)]), (.bool has0)] [] = some (seinelaw18_UsageAllowsE r, []) := tO_spec (enc := fun r => (seinelaw18_UsageAllowsE r, [])) h
def seinelaw18_UsageOwnE : Bool → PV := fun r => PV.bool r
theorem seinelaw18_UsageOwnEj (a b : Bool) (h : seinelaw18_UsageOwnE a = seinelaw18_UsageOwnE b) : a = b := Ev.bool_inj a b h
noncomputable def seinelaw18_UsageOwn (v0 : GVarDef) (has0 : Bool) : Option Bool := tO O 4 [(.agg [(.str v0.name), (.str v0.t.name), (.int .i64 v0.t.lists), (.int .i64 v0.t.musts), (.bool v0.has), (.int .i64 v0.default.kind), (.int .i64 v0.default.n), (.str v0.default.s), (.slice (List.map encValue v0.default.l) [] false), (.slice (List.map encMember v0.default.m) [] false)]), (.bool has0)] [] fun r => (seinelaw18_UsageOwnE r, [])
theorem seinelaw18_UsageOwn_spec {v0 : GVarDef} {has0 : Bool} {r : Bool} (h : seinelaw18_UsageOwn v0 has0 = some r) : O 4 [(.agg [(.str v0.name), (.str v0.t.name), (.int .i64 v0.t.lists), (.int .i64 v0.t.musts), (.bool v0.has), (.int .i64 v0.default.kind), (.int .i64 v0.default.n), (.str v0.default.s), (.slice (List.map encValue v0.default.l) [] false), (.slice (List.map encMember v0.default.m) [] false)]), (.bool has0)] [] = some (seinelaw18_UsageOwnE r, []) := tO_spec (enc := fun r => (seinelaw18_UsageOwnE r, [])) h
def seinelaw32_TreeUpsE : Bool → PV := fun r => PV.bool r
theorem seinelaw32_TreeUpsEj (a b : Bool) (h : seinelaw32_TreeUpsE a = seinelaw32_TreeUpsE b) : a = b := Ev.bool_inj a b h
noncomputable def seinelaw32_TreeUps (n : GNode) : Option Bool := tO O 5 [(.agg [(.int .i64 n.kind), (.bool n.must), (.int .i64 n.v.kind), (.int .i64 n.v.n), (.str n.v.s), (.slice (List.map encValue n.v.l) [] false), (.slice (List.map encMember n.v.m) [] false), (.slice (List.map PV.str n.keys) [] false), (.slice (List.map encNode n.l) [] false)])] [] fun r => (seinelaw32_TreeUpsE r, [])
theorem seinelaw32_TreeUps_spec {n : GNode} {r : Bool} (h : seinelaw32_TreeUps n = some r) : O 5 [(.agg [(.int .i64 n.kind), (.bool n.must), (.int .i64 n.v.kind), (.int .i64 n.v.n), (.str n.v.s), (.slice (List.map encValue n.v.l) [] false), (.slice (List.map encMember n.v.m) [] false), (.slice (List.map PV.str n.keys) [] false), (.slice (List.map encNode n.l) [] false)])] [] = some (seinelaw32_TreeUpsE r, []) := tO_spec (enc := fun r => (seinelaw32_TreeUpsE r, [])) h
def seinelaw32_TreeChainsE : Bool → PV := fun r => PV.bool r
theorem seinelaw32_TreeChainsEj (a b : Bool) (h : seinelaw32_TreeChainsE a = seinelaw32_TreeChainsE b) : a = b := Ev.bool_inj a b h
noncomputable def seinelaw32_TreeChains (n : GNode) : Option Bool := tO O 6 [(.agg [(.int .i64 n.kind), (.bool n.must), (.int .i64 n.v.kind), (.int .i64 n.v.n), (.str n.v.s), (.slice (List.map encValue n.v.l) [] false), (.slice (List.map encMember n.v.m) [] false), (.slice (List.map PV.str n.keys) [] false), (.slice (List.map encNode n.l) [] false)])] [] fun r => (seinelaw32_TreeChainsE r, [])
theorem seinelaw32_TreeChains_spec {n : GNode} {r : Bool} (h : seinelaw32_TreeChains n = some r) : O 6 [(.agg [(.int .i64 n.kind), (.bool n.must), (.int .i64 n.v.kind), (.int .i64 n.v.n), (.str n.v.s), (.slice (List.map encValue n.v.l) [] false), (.slice (List.map encMember n.v.m) [] false), (.slice (List.map PV.str n.keys) [] false), (.slice (List.map encNode n.l) [] false)])] [] = some (seinelaw32_TreeChainsE r, []) := tO_spec (enc := fun r => (seinelaw32_TreeChainsE r, [])) h
def seinelaw32_TreeMustsE : Bool → PV := fun r => PV.bool r
theorem seinelaw32_TreeMustsEj (a b : Bool) (h : seinelaw32_TreeMustsE a = seinelaw32_TreeMustsE b) : a = b := Ev.bool_inj a b h
noncomputable def seinelaw32_TreeMusts (n : GNode) : Option Bool := tO O 7 [(.agg [(.int .i64 n.kind), (.bool n.must), (.int .i64 n.v.kind), (.int .i64 n.v.n), (.str n.v.s), (.slice (List.map encValue n.v.l) [] false), (.slice (List.map encMember n.v.m) [] false), (.slice (List.map PV.str n.keys) [] false), (.slice (List.map encNode n.l) [] false)])] [] fun r => (seinelaw32_TreeMustsE r, [])
theorem seinelaw32_TreeMusts_spec {n : GNode} {r : Bool} (h : seinelaw32_TreeMusts n = some r) : O 7 [(.agg [(.int .i64 n.kind), (.bool n.must), (.int .i64 n.v.kind), (.int .i64 n.v.n), (.str n.v.s), (.slice (List.map encValue n.v.l) [] false), (.slice (List.map encMember n.v.m) [] false), (.slice (List.map PV.str n.keys) [] false), (.slice (List.map encNode n.l) [] false)])] [] = some (seinelaw32_TreeMustsE r, []) := tO_spec (enc := fun r => (seinelaw32_TreeMustsE r, [])) h
def seinelaw32_TreePartsE : Bool → PV := fun r => PV.bool r
theorem seinelaw32_TreePartsEj (a b : Bool) (h : seinelaw32_TreePartsE a = seinelaw32_TreePartsE b) : a = b := Ev.bool_inj a b h
noncomputable def seinelaw32_TreeParts (l0 : List GNode) (keys : List Str) : Option Bool := tO O 8 [(.slice (List.map encNode l0) [] false), (.slice (List.map PV.str keys) [] false)] [] fun r => (seinelaw32_TreePartsE r, [])
theorem seinelaw32_TreeParts_spec {l0 : List GNode} {keys : List Str} {r : Bool} (h : seinelaw32_TreeParts l0 keys = some r) : O 8 [(.slice (List.map encNode l0) [] false), (.slice (List.map PV.str keys) [] false)] [] = some (seinelaw32_TreePartsE r, []) := tO_spec (enc := fun r => (seinelaw32_TreePartsE r, [])) h
def seinekeep_SizeE : Int → PV := fun r => (PV.int .i64) r
theorem seinekeep_SizeEj (a b : Int) (h : seinekeep_SizeE a = seinekeep_SizeE b) : a = b := (Ev.int_inj _) a b h
noncomputable def seinekeep_Size (v0 : GValue) : Option Int := tO O 9 [(.agg [(.int .i64 v0.kind), (.int .i64 v0.n), (.str v0.s), (.slice (List.map encValue v0.l) [] false), (.slice (List.map encMember v0.m) [] false)])] [] fun r => (seinekeep_SizeE r, [])
theorem seinekeep_Size_spec {v0 : GValue} {r : Int} (h : seinekeep_Size v0 = some r) : O 9 [(.agg [(.int .i64 v0.kind), (.int .i64 v0.n), (.str v0.s), (.slice (List.map encValue v0.l) [] false), (.slice (List.map encMember v0.m) [] false)])] [] = some (seinekeep_SizeE r, []) := tO_spec (enc := fun r => (seinekeep_SizeE r, [])) h
def seinelaw18_awakeE : Bool → PV := fun r => PV.bool r
theorem seinelaw18_awakeEj (a b : Bool) (h : seinelaw18_awakeE a = seinelaw18_awakeE b) : a = b := Ev.bool_inj a b h
noncomputable def seinelaw18_awake : Option Bool := tO O 10 [] [] fun r => (seinelaw18_awakeE r, [])
theorem seinelaw18_awake_spec {r : Bool} (h : seinelaw18_awake = some r) : O 10 [] [] = some (seinelaw18_awakeE r, []) := tO_spec (enc := fun r => (seinelaw18_awakeE r, [])) h
def usage_AllowedE : Bool → PV := fun r => PV.bool r
theorem usage_AllowedEj (a b : Bool) (h : usage_AllowedE a = usage_AllowedE b) : a = b := Ev.bool_inj a b h
noncomputable def usage_Allowed (v0 : GVarDef) (t : GType) (has0 : Bool) : Option Bool := tO O 11 [(.agg [(.str v0.name), (.str v0.t.name), (.int .i64 v0.t.lists), (.int .i64 v0.t.musts), (.bool v0.has), (.int .i64 v0.default.kind), (.int .i64 v0.default.n), (.str v0.default.s), (.slice (List.map encValue v0.default.l) [] false), (.slice (List.map encMember v0.default.m) [] false)]), (.agg [(.str t.name), (.int .i64 t.lists), (.int .i64 t.musts)]), (.bool has0)] [] fun r => (usage_AllowedE r, [])
theorem usage_Allowed_spec {v0 : GVarDef} {t : GType} {has0 : Bool} {r : Bool} (h : usage_Allowed v0 t has0 = some r) : O 11 [(.agg [(.str v0.name), (.str v0.t.name), (.int .i64 v0.t.lists), (.int .i64 v0.t.musts), (.bool v0.has), (.int .i64 v0.default.kind), (.int .i64 v0.default.n), (.str v0.default.s), (.slice (List.map encValue v0.default.l) [] false), (.slice (List.map encMember v0.default.m) [] false)]), (.agg [(.str t.name), (.int .i64 t.lists), (.int .i64 t.musts)]), (.bool has0)] [] = some (usage_AllowedE r, []) := tO_spec (enc := fun r => (usage_AllowedE r, [])) h
def seineref13_AllowedE : Bool → PV := fun r => PV.bool r
theorem seineref13_AllowedEj (a b : Bool) (h : seineref13_AllowedE a = seineref13_AllowedE b) : a = b := Ev.bool_inj a b h
noncomputable def seineref13_Allowed (v0 : GVarDef) (t : GType) (has0 : Bool) : Option Bool := tO O 12 [(.agg [(.str v0.name), (.str v0.t.name), (.int .i64 v0.t.lists), (.int .i64 v0.t.musts), (.bool v0.has), (.int .i64 v0.default.kind), (.int .i64 v0.default.n), (.str v0.default.s), (.slice (List.map encValue v0.default.l) [] false), (.slice (List.map encMember v0.default.m) [] false)]), (.agg [(.str t.name), (.int .i64 t.lists), (.int .i64 t.musts)]), (.bool has0)] [] fun r => (seineref13_AllowedE r, [])
theorem seineref13_Allowed_spec {v0 : GVarDef} {t : GType} {has0 : Bool} {r : Bool} (h : seineref13_Allowed v0 t has0 = some r) : O 12 [(.agg [(.str v0.name), (.str v0.t.name), (.int .i64 v0.t.lists), (.int .i64 v0.t.musts), (.bool v0.has), (.int .i64 v0.default.kind), (.int .i64 v0.default.n), (.str v0.default.s), (.slice (List.map encValue v0.default.l) [] false), (.slice (List.map encMember v0.default.m) [] false)]), (.agg [(.str t.name), (.int .i64 t.lists), (.int .i64 t.musts)]), (.bool has0)] [] = some (seineref13_AllowedE r, []) := tO_spec (enc := fun r => (seineref13_AllowedE r, [])) h
def wrap_RightE : Bool → PV := fun r => PV.bool r
theorem wrap_RightEj (a b : Bool) (h : wrap_RightE a = wrap_RightE b) : a = b := Ev.bool_inj a b h
noncomputable def wrap_Right (t : GType) : Option Bool := tO O 13 [(.agg [(.str t.name), (.int .i64 t.lists), (.int .i64 t.musts)])] [] fun r => (wrap_RightE r, [])
theorem wrap_Right_spec {t : GType} {r : Bool} (h : wrap_Right t = some r) : O 13 [(.agg [(.str t.name), (.int .i64 t.lists), (.int .i64 t.musts)])] [] = some (wrap_RightE r, []) := tO_spec (enc := fun r => (wrap_RightE r, [])) h
def wrap_MustE : GType → PV := fun r => encType r
theorem wrap_MustEj (a b : GType) (h : wrap_MustE a = wrap_MustE b) : a = b := inj_GType a b h
noncomputable def wrap_Must (t : GType) : Option GType := tO O 14 [(.agg [(.str t.name), (.int .i64 t.lists), (.int .i64 t.musts)])] [] fun r => (wrap_MustE r, [])
theorem wrap_Must_spec {t : GType} {r : GType} (h : wrap_Must t = some r) : O 14 [(.agg [(.str t.name), (.int .i64 t.lists), (.int .i64 t.musts)])] [] = some (wrap_MustE r, []) := tO_spec (enc := fun r => (wrap_MustE r, [])) h
def wrap_BareE : GType → PV := fun r => encType r
theorem wrap_BareEj (a b : GType) (h : wrap_BareE a = wrap_BareE b) : a = b := inj_GType a b h
noncomputable def wrap_Bare (t : GType) : Option GType := tO O 15 [(.agg [(.str t.name), (.int .i64 t.lists), (.int .i64 t.musts)])] [] fun r => (wrap_BareE r, [])
theorem wrap_Bare_spec {t : GType} {r : GType} (h : wrap_Bare t = some r) : O 15 [(.agg [(.str t.name), (.int .i64 t.lists), (.int .i64 t.musts)])] [] = some (wrap_BareE r, []) := tO_spec (enc := fun r => (wrap_BareE r, [])) h
def seinelaw32_SizeE : Int → PV := fun r => (PV.int .i64) r
theorem seinelaw32_SizeEj (a b : Int) (h : seinelaw32_SizeE a = seinelaw32_SizeE b) : a = b := (Ev.int_inj _) a b h
noncomputable def seinelaw32_Size (n : GNode) : Option Int := tO O 16 [(.agg [(.int .i64 n.kind), (.bool n.must), (.int .i64 n.v.kind), (.int .i64 n.v.n), (.str n.v.s), (.slice (List.map encValue n.v.l) [] false), (.slice (List.map encMember n.v.m) [] false), (.slice (List.map PV.str n.keys) [] false), (.slice (List.map encNode n.l) [] false)])] [] fun r => (seinelaw32_SizeE r, [])
theorem seinelaw32_Size_spec {n : GNode} {r : Int} (h : seinelaw32_Size n = some r) : O 16 [(.agg [(.int .i64 n.kind), (.bool n.must), (.int .i64 n.v.kind), (.int .i64 n.v.n), (.str n.v.s), (.slice (List.map encValue n.v.l) [] false), (.slice (List.map encMember n.v.m) [] false), (.slice (List.map PV.str n.keys) [] false), (.slice (List.map encNode n.l) [] false)])] [] = some (seinelaw32_SizeE r, []) := tO_spec (enc := fun r => (seinelaw32_SizeE r, [])) h
def seinelaw32_awakeE : Bool → PV := fun r => PV.bool r
theorem seinelaw32_awakeEj (a b : Bool) (h : seinelaw32_awakeE a = seinelaw32_awakeE b) : a = b := Ev.bool_inj a b h
noncomputable def seinelaw32_awake : Option Bool := tO O 17 [] [] fun r => (seinelaw32_awakeE r, [])
theorem seinelaw32_awake_spec {r : Bool} (h : seinelaw32_awake = some r) : O 17 [] [] = some (seinelaw32_awakeE r, []) := tO_spec (enc := fun r => (seinelaw32_awakeE r, [])) h
def tree_UpE : (GValue × Bool) → PV := fun r => .tuple [encValue r.1, PV.bool r.2]
theorem tree_UpEj (a b : GValue × Bool) (h : tree_UpE a = tree_UpE b) : a = b := by
  simp only [tree_UpE, PV.tuple.injEq, List.cons.injEq, and_true] at h
  exact Prod.ext (inj_GValue _ _ h.1) (Ev.bool_inj _ _ h.2)
noncomputable def tree_Up (n : GNode) : Option (GValue × Bool) := tO O 18 [(.agg [(.int .i64 n.kind), (.bool n.must), (.int .i64 n.v.kind), (.int .i64 n.v.n), (.str n.v.s), (.slice (List.map encValue n.v.l) [] false), (.slice (List.map encMember n.v.m) [] false), (.slice (List.map PV.str n.keys) [] false), (.slice (List.map encNode n.l) [] false)])] [] fun r => (tree_UpE r, [])
theorem tree_Up_spec {n : GNode} {r : GValue × Bool} (h : tree_Up n = some r) : O 18 [(.agg [(.int .i64 n.kind), (.bool n.must), (.int .i64 n.v.kind), (.int .i64 n.v.n), (.str n.v.s), (.slice (List.map encValue n.v.l) [] false), (.slice (List.map encMember n.v.m) [] false), (.slice (List.map PV.str n.keys) [] false), (.slice (List.map encNode n.l) [] false)])] [] = some (tree_UpE r, []) := tO_spec (enc := fun r => (tree_UpE r, [])) h
def seineref31_UpE : (GValue × Bool) → PV := fun r => .tuple [encValue r.1, PV.bool r.2]
theorem seineref31_UpEj (a b : GValue × Bool) (h : seineref31_UpE a = seineref31_UpE b) : a = b := by
  simp only [seineref31_UpE, PV.tuple.injEq, List.cons.injEq, and_true] at h
  exact Prod.ext (inj_GValue _ _ h.1) (Ev.bool_inj _ _ h.2)
noncomputable def seineref31_Up (n : GNode) : Option (GValue × Bool) := tO O 19 [(.agg [(.int .i64 n.kind), (.bool n.must), (.int .i64 n.v.kind), (.int .i64 n.v.n), (.str n.v.s), (.slice (List.map encValue n.v.l) [] false), (.slice (List.map encMember n.v.m) [] false), (.slice (List.map PV.str n.keys) [] false), (.slice (List.map encNode n.l) [] false)])] [] fun r => (seineref31_UpE r, [])
theorem seineref31_Up_spec {n : GNode} {r : GValue × Bool} (h : seineref31_Up n = some r) : O 19 [(.agg [(.int .i64 n.kind), (.bool n.must), (.int .i64 n.v.kind), (.int .i64 n.v.n), (.str n.v.s), (.slice (List.map encValue n.v.l) [] false), (.slice (List.map encMember n.v.m) [] false), (.slice (List.map PV.str n.keys) [] false), (.slice (List.map encNode n.l) [] false)])] [] = some (seineref31_UpE r, []) := tO_spec (enc := fun r => (seineref31_UpE r, [])) h
def seineref1_SameE : Bool → PV := fun r => PV.bool r
theorem seineref1_SameEj (a b : Bool) (h : seineref1_SameE a = seineref1_SameE b) : a = b := Ev.bool_inj a b h
noncomputable def seineref1_Same (a : GValue) (b : GValue) : Option Bool := tO O 20 [(.agg [(.int .i64 a.kind), (.int .i64 a.n), (.str a.s), (.slice (List.map encValue a.l) [] false), (.slice (List.map encMember a.m) [] false)]), (.agg [(.int .i64 b.kind), (.int .i64 b.n), (.str b.s), (.slice (List.map encValue b.l) [] false), (.slice (List.map encMember b.m) [] false)])] [] fun r => (seineref1_SameE r, [])
theorem seineref1_Same_spec {a : GValue} {b : GValue} {r : Bool} (h : seineref1_Same a b = some r) : O 20 [(.agg [(.int .i64 a.kind), (.int .i64 a.n), (.str a.s), (.slice (List.map encValue a.l) [] false), (.slice (List.map encMember a.m) [] false)]), (.agg [(.int .i64 b.kind), (.int .i64 b.n), (.str b.s), (.slice (List.map encValue b.l) [] false), (.slice (List.map encMember b.m) [] false)])] [] = some (seineref1_SameE r, []) := tO_spec (enc := fun r => (seineref1_SameE r, [])) h
def seinelaw32_emptyE : Bool → PV := fun r => PV.bool r
theorem seinelaw32_emptyEj (a b : Bool) (h : seinelaw32_emptyE a = seinelaw32_emptyE b) : a = b := Ev.bool_inj a b h
noncomputable def seinelaw32_empty (n : GNode) : Option Bool := tO O 21 [(.agg [(.int .i64 n.kind), (.bool n.must), (.int .i64 n.v.kind), (.int .i64 n.v.n), (.str n.v.s), (.slice (List.map encValue n.v.l) [] false), (.slice (List.map encMember n.v.m) [] false), (.slice (List.map PV.str n.keys) [] false), (.slice (List.map encNode n.l) [] false)])] [] fun r => (seinelaw32_emptyE r, [])
theorem seinelaw32_empty_spec {n : GNode} {r : Bool} (h : seinelaw32_empty n = some r) : O 21 [(.agg [(.int .i64 n.kind), (.bool n.must), (.int .i64 n.v.kind), (.int .i64 n.v.n), (.str n.v.s), (.slice (List.map encValue n.v.l) [] false), (.slice (List.map encMember n.v.m) [] false), (.slice (List.map PV.str n.keys) [] false), (.slice (List.map encNode n.l) [] false)])] [] = some (seinelaw32_emptyE r, []) := tO_spec (enc := fun r => (seinelaw32_emptyE r, [])) h
def tree_AtE : (GValue × Bool) → PV := fun r => .tuple [encValue r.1, PV.bool r.2]
theorem tree_AtEj (a b : GValue × Bool) (h : tree_AtE a = tree_AtE b) : a = b := by
  simp only [tree_AtE, PV.tuple.injEq, List.cons.injEq, and_true] at h
  exact Prod.ext (inj_GValue _ _ h.1) (Ev.bool_inj _ _ h.2)
noncomputable def tree_At (v0 : GValue) (p0 : List GStep) : Option (GValue × Bool) := tO O 22 [(.agg [(.int .i64 v0.kind), (.int .i64 v0.n), (.str v0.s), (.slice (List.map encValue v0.l) [] false), (.slice (List.map encMember v0.m) [] false)]), (.slice (List.map encStep p0) [] false)] [] fun r => (tree_AtE r, [])
theorem tree_At_spec {v0 : GValue} {p0 : List GStep} {r : GValue × Bool} (h : tree_At v0 p0 = some r) : O 22 [(.agg [(.int .i64 v0.kind), (.int .i64 v0.n), (.str v0.s), (.slice (List.map encValue v0.l) [] false), (.slice (List.map encMember v0.m) [] false)]), (.slice (List.map encStep p0) [] false)] [] = some (tree_AtE r, []) := tO_spec (enc := fun r => (tree_AtE r, [])) h
def seinelaw18_typE : GType → PV := fun r => encType r
theorem seinelaw18_typEj (a b : GType) (h : seinelaw18_typE a = seinelaw18_typE b) : a = b := inj_GType a b h
noncomputable def seinelaw18_typ (name : Str) (musts : Int) : Option GType := tO O 23 [(.str name), (.int .i64 musts)] [] fun r => (seinelaw18_typE r, [])
theorem seinelaw18_typ_spec {name : Str} {musts : Int} {r : GType} (h : seinelaw18_typ name musts = some r) : O 23 [(.str name), (.int .i64 musts)] [] = some (seinelaw18_typE r, []) := tO_spec (enc := fun r => (seinelaw18_typE r, [])) h
def wrap_IsE : Bool → PV := fun r => PV.bool r
theorem wrap_IsEj (a b : Bool) (h : wrap_IsE a = wrap_IsE b) : a = b := Ev.bool_inj a b h
noncomputable def wrap_Is (t : GType) : Option Bool := tO O 24 [(.agg [(.str t.name), (.int .i64 t.lists), (.int .i64 t.musts)])] [] fun r => (wrap_IsE r, [])
theorem wrap_Is_spec {t : GType} {r : Bool} (h : wrap_Is t = some r) : O 24 [(.agg [(.str t.name), (.int .i64 t.lists), (.int .i64 t.musts)])] [] = some (wrap_IsE r, []) := tO_spec (enc := fun r => (wrap_IsE r, [])) h
def wrap_SubE : Bool → PV := fun r => PV.bool r
theorem wrap_SubEj (a b : Bool) (h : wrap_SubE a = wrap_SubE b) : a = b := Ev.bool_inj a b h
noncomputable def wrap_Sub (a : GType) (b : GType) : Option Bool := tO O 25 [(.agg [(.str a.name), (.int .i64 a.lists), (.int .i64 a.musts)]), (.agg [(.str b.name), (.int .i64 b.lists), (.int .i64 b.musts)])] [] fun r => (wrap_SubE r, [])
theorem wrap_Sub_spec {a : GType} {b : GType} {r : Bool} (h : wrap_Sub a b = some r) : O 25 [(.agg [(.str a.name), (.int .i64 a.lists), (.int .i64 a.musts)]), (.agg [(.str b.name), (.int .i64 b.lists), (.int .i64 b.musts)])] [] = some (wrap_SubE r, []) := tO_spec (enc := fun r => (wrap_SubE r, [])) h
def seineref1_IsE : Bool → PV := fun r => PV.bool r
theorem seineref1_IsEj (a b : Bool) (h : seineref1_IsE a = seineref1_IsE b) : a = b := Ev.bool_inj a b h
noncomputable def seineref1_Is (t : GType) : Option Bool := tO O 26 [(.agg [(.str t.name), (.int .i64 t.lists), (.int .i64 t.musts)])] [] fun r => (seineref1_IsE r, [])
theorem seineref1_Is_spec {t : GType} {r : Bool} (h : seineref1_Is t = some r) : O 26 [(.agg [(.str t.name), (.int .i64 t.lists), (.int .i64 t.musts)])] [] = some (seineref1_IsE r, []) := tO_spec (enc := fun r => (seineref1_IsE r, [])) h
def seineref1_BareE : GType → PV := fun r => encType r
theorem seineref1_BareEj (a b : GType) (h : seineref1_BareE a = seineref1_BareE b) : a = b := inj_GType a b h
noncomputable def seineref1_Bare (t : GType) : Option GType := tO O 27 [(.agg [(.str t.name), (.int .i64 t.lists), (.int .i64 t.musts)])] [] fun r => (seineref1_BareE r, [])
theorem seineref1_Bare_spec {t : GType} {r : GType} (h : seineref1_Bare t = some r) : O 27 [(.agg [(.str t.name), (.int .i64 t.lists), (.int .i64 t.musts)])] [] = some (seineref1_BareE r, []) := tO_spec (enc := fun r => (seineref1_BareE r, [])) h
def seineref1_SubTypeE : Bool → PV := fun r => PV.bool r
theorem seineref1_SubTypeEj (a b : Bool) (h : seineref1_SubTypeE a = seineref1_SubTypeE b) : a = b := Ev.bool_inj a b h
noncomputable def seineref1_SubType (a : GType) (b : GType) : Option Bool := tO O 28 [(.agg [(.str a.name), (.int .i64 a.lists), (.int .i64 a.musts)]), (.agg [(.str b.name), (.int .i64 b.lists), (.int .i64 b.musts)])] [] fun r => (seineref1_SubTypeE r, [])
theorem seineref1_SubType_spec {a : GType} {b : GType} {r : Bool} (h : seineref1_SubType a b = some r) : O 28 [(.agg [(.str a.name), (.int .i64 a.lists), (.int .i64 a.musts)]), (.agg [(.str b.name), (.int .i64 b.lists), (.int .i64 b.musts)])] [] = some (seineref1_SubTypeE r, []) := tO_spec (enc := fun r => (seineref1_SubTypeE r, [])) h
def letters_NameE : Bool → PV := fun r => PV.bool r
theorem letters_NameEj (a b : Bool) (h : letters_NameE a = letters_NameE b) : a = b := Ev.bool_inj a b h
noncomputable def letters_Name (s : Str) : Option Bool := tO O 29 [(.str s)] [] fun r => (letters_NameE r, [])
theorem letters_Name_spec {s : Str} {r : Bool} (h : letters_Name s = some r) : O 29 [(.str s)] [] = some (letters_NameE r, []) := tO_spec (enc := fun r => (letters_NameE r, [])) h
def tree_innerE : GValue → PV := fun r => encValue r
theorem tree_innerEj (a b : GValue) (h : tree_innerE a = tree_innerE b) : a = b := inj_GValue a b h
noncomputable def tree_inner (n : GNode) : Option GValue := tO O 30 [(.agg [(.int .i64 n.kind), (.bool n.must), (.int .i64 n.v.kind), (.int .i64 n.v.n), (.str n.v.s), (.slice (List.map encValue n.v.l) [] false), (.slice (List.map encMember n.v.m) [] false), (.slice (List.map PV.str n.keys) [] false), (.slice (List.map encNode n.l) [] false)])] [] fun r => (tree_innerE r, [])
theorem tree_inner_spec {n : GNode} {r : GValue} (h : tree_inner n = some r) : O 30 [(.agg [(.int .i64 n.kind), (.bool n.must), (.int .i64 n.v.kind), (.int .i64 n.v.n), (.str n.v.s), (.slice (List.map encValue n.v.l) [] false), (.slice (List.map encMember n.v.m) [] false), (.slice (List.map PV.str n.keys) [] false), (.slice (List.map encNode n.l) [] false)])] [] = some (tree_innerE r, []) := tO_spec (enc := fun r => (tree_innerE r, [])) h
def seineref31_itemsE : GValue → PV := fun r => encValue r
theorem seineref31_itemsEj (a b : GValue) (h : seineref31_itemsE a = seineref31_itemsE b) : a = b := inj_GValue a b h
noncomputable def seineref31_items (l0 : List GNode) : Option GValue := tO O 31 [(.slice (List.map encNode l0) [] false)] [] fun r => (seineref31_itemsE r, [])
theorem seineref31_items_spec {l0 : List GNode} {r : GValue} (h : seineref31_items l0 = some r) : O 31 [(.slice (List.map encNode l0) [] false)] [] = some (seineref31_itemsE r, []) := tO_spec (enc := fun r => (seineref31_itemsE r, [])) h
def seineref31_partsE : GValue → PV := fun r => encValue r
theorem seineref31_partsEj (a b : GValue) (h : seineref31_partsE a = seineref31_partsE b) : a = b := inj_GValue a b h
noncomputable def seineref31_parts (keys : List Str) (l0 : List GNode) : Option GValue := tO O 32 [(.slice (List.map PV.str keys) [] false), (.slice (List.map encNode l0) [] false)] [] fun r => (seineref31_partsE r, [])
theorem seineref31_parts_spec {keys : List Str} {l0 : List GNode} {r : GValue} (h : seineref31_parts keys l0 = some r) : O 32 [(.slice (List.map PV.str keys) [] false), (.slice (List.map encNode l0) [] false)] [] = some (seineref31_partsE r, []) := tO_spec (enc := fun r => (seineref31_partsE r, [])) h
def seineref1_MembersE : Bool → PV := fun r => PV.bool r
theorem seineref1_MembersEj (a b : Bool) (h : seineref1_MembersE a = seineref1_MembersE b) : a = b := Ev.bool_inj a b h
noncomputable def seineref1_Members (a : List GMember) (b : List GMember) : Option Bool := tO O 33 [(.slice (List.map encMember a) [] false), (.slice (List.map encMember b) [] false)] [] fun r => (seineref1_MembersE r, [])
theorem seineref1_Members_spec {a : List GMember} {b : List GMember} {r : Bool} (h : seineref1_Members a b = some r) : O 33 [(.slice (List.map encMember a) [] false), (.slice (List.map encMember b) [] false)] [] = some (seineref1_MembersE r, []) := tO_spec (enc := fun r => (seineref1_MembersE r, [])) h
def value_GetE : (GValue × Bool) → PV := fun r => .tuple [encValue r.1, PV.bool r.2]
theorem value_GetEj (a b : GValue × Bool) (h : value_GetE a = value_GetE b) : a = b := by
  simp only [value_GetE, PV.tuple.injEq, List.cons.injEq, and_true] at h
  exact Prod.ext (inj_GValue _ _ h.1) (Ev.bool_inj _ _ h.2)
noncomputable def value_Get (name : Str) (l0 : List GMember) : Option (GValue × Bool) := tO O 34 [(.str name), (.slice (List.map encMember l0) [] false)] [] fun r => (value_GetE r, [])
theorem value_Get_spec {name : Str} {l0 : List GMember} {r : GValue × Bool} (h : value_Get name l0 = some r) : O 34 [(.str name), (.slice (List.map encMember l0) [] false)] [] = some (value_GetE r, []) := tO_spec (enc := fun r => (value_GetE r, [])) h
def wrap_bitE : Bool → PV := fun r => PV.bool r
theorem wrap_bitEj (a b : Bool) (h : wrap_bitE a = wrap_bitE b) : a = b := Ev.bool_inj a b h
noncomputable def wrap_bit (t : GType) (i : Int) : Option Bool := tO O 35 [(.agg [(.str t.name), (.int .i64 t.lists), (.int .i64 t.musts)]), (.int .i64 i)] [] fun r => (wrap_bitE r, [])
theorem wrap_bit_spec {t : GType} {i : Int} {r : Bool} (h : wrap_bit t i = some r) : O 35 [(.agg [(.str t.name), (.int .i64 t.lists), (.int .i64 t.musts)]), (.int .i64 i)] [] = some (wrap_bitE r, []) := tO_spec (enc := fun r => (wrap_bitE r, [])) h
def seineref1_RightTypeE : Bool → PV := fun r => PV.bool r
theorem seineref1_RightTypeEj (a b : Bool) (h : seineref1_RightTypeE a = seineref1_RightTypeE b) : a = b := Ev.bool_inj a b h
noncomputable def seineref1_RightType (t : GType) : Option Bool := tO O 36 [(.agg [(.str t.name), (.int .i64 t.lists), (.int .i64 t.musts)])] [] fun r => (seineref1_RightTypeE r, [])
theorem seineref1_RightType_spec {t : GType} {r : Bool} (h : seineref1_RightType t = some r) : O 36 [(.agg [(.str t.name), (.int .i64 t.lists), (.int .i64 t.musts)])] [] = some (seineref1_RightTypeE r, []) := tO_spec (enc := fun r => (seineref1_RightTypeE r, [])) h
def letters_LetterE : Bool → PV := fun r => PV.bool r
theorem letters_LetterEj (a b : Bool) (h : letters_LetterE a = letters_LetterE b) : a = b := Ev.bool_inj a b h
noncomputable def letters_Letter (c : Int) : Option Bool := tO O 37 [(.int .u8 c)] [] fun r => (letters_LetterE r, [])
theorem letters_Letter_spec {c : Int} {r : Bool} (h : letters_Letter c = some r) : O 37 [(.int .u8 c)] [] = some (letters_LetterE r, []) := tO_spec (enc := fun r => (letters_LetterE r, [])) h
def letters_DigitE : Bool → PV := fun r => PV.bool r
theorem letters_DigitEj (a b : Bool) (h : letters_DigitE a = letters_DigitE b) : a = b := Ev.bool_inj a b h
noncomputable def letters_Digit (c : Int) : Option Bool := tO O 38 [(.int .u8 c)] [] fun r => (letters_DigitE r, [])
theorem letters_Digit_spec {c : Int} {r : Bool} (h : letters_Digit c = some r) : O 38 [(.int .u8 c)] [] = some (letters_DigitE r, []) := tO_spec (enc := fun r => (letters_DigitE r, [])) h
def tree_keyE : Str → PV := fun r => PV.str r
theorem tree_keyEj (a b : Str) (h : tree_keyE a = tree_keyE b) : a = b := Ev.str_inj a b h
noncomputable def tree_key (n : GNode) (i : Int) : Option Str := tO O 39 [(.agg [(.int .i64 n.kind), (.bool n.must), (.int .i64 n.v.kind), (.int .i64 n.v.n), (.str n.v.s), (.slice (List.map encValue n.v.l) [] false), (.slice (List.map encMember n.v.m) [] false), (.slice (List.map PV.str n.keys) [] false), (.slice (List.map encNode n.l) [] false)]), (.int .i64 i)] [] fun r => (tree_keyE r, [])
theorem tree_key_spec {n : GNode} {i : Int} {r : Str} (h : tree_key n i = some r) : O 39 [(.agg [(.int .i64 n.kind), (.bool n.must), (.int .i64 n.v.kind), (.int .i64 n.v.n), (.str n.v.s), (.slice (List.map encValue n.v.l) [] false), (.slice (List.map encMember n.v.m) [] false), (.slice (List.map PV.str n.keys) [] false), (.slice (List.map encNode n.l) [] false)]), (.int .i64 i)] [] = some (tree_keyE r, []) := tO_spec (enc := fun r => (tree_keyE r, [])) h
def seineref1_NameE : Bool → PV := fun r => PV.bool r
theorem seineref1_NameEj (a b : Bool) (h : seineref1_NameE a = seineref1_NameE b) : a = b := Ev.bool_inj a b h
noncomputable def seineref1_Name (s : Str) : Option Bool := tO O 40 [(.str s)] [] fun r => (seineref1_NameE r, [])
theorem seineref1_Name_spec {s : Str} {r : Bool} (h : seineref1_Name s = some r) : O 40 [(.str s)] [] = some (seineref1_NameE r, []) := tO_spec (enc := fun r => (seineref1_NameE r, [])) h
def seineref1_startE : Bool → PV := fun r => PV.bool r
theorem seineref1_startEj (a b : Bool) (h : seineref1_startE a = seineref1_startE b) : a = b := Ev.bool_inj a b h
noncomputable def seineref1_start (c : Int) : Option Bool := tO O 41 [(.int .u8 c)] [] fun r => (seineref1_startE r, [])
theorem seineref1_start_spec {c : Int} {r : Bool} (h : seineref1_start c = some r) : O 41 [(.int .u8 c)] [] = some (seineref1_startE r, []) := tO_spec (enc := fun r => (seineref1_startE r, [])) h
def seineref1_digitE : Bool → PV := fun r => PV.bool r
theorem seineref1_digitEj (a b : Bool) (h : seineref1_digitE a = seineref1_digitE b) : a = b := Ev.bool_inj a b h
noncomputable def seineref1_digit (c : Int) : Option Bool := tO O 42 [(.int .u8 c)] [] fun r => (seineref1_digitE r, [])
theorem seineref1_digit_spec {c : Int} {r : Bool} (h : seineref1_digit c = some r) : O 42 [(.int .u8 c)] [] = some (seineref1_digitE r, []) := tO_spec (enc := fun r => (seineref1_digitE r, [])) h
end Go.Proofs.Ytoddajoeiamidaa

/- Printed by frames.py: the types' readings. -/
set_option linter.unusedVariables false
set_option linter.unusedSimpArgs false
open Go Go.Ev Go.Ev.PV
namespace Go.Proofs.Ytoddajoeiamidaa
def bkType (x : GType) : Nat := (bkStr x.name + (bk1 x.lists + (bk1 x.musts + (0)))) + 1
def gdType (x : GType) : Prop := gd1 x.name ∧ ((gdI .i64) x.lists ∧ ((gdI .i64) x.musts ∧ (True)))
theorem bkType_eq (x : GType) : bkType x = (bkStr x.name + (bk1 x.lists + (bk1 x.musts + (0)))) + 1 := rfl
theorem gdType_eq (x : GType) : gdType x = (gd1 x.name ∧ ((gdI .i64) x.lists ∧ ((gdI .i64) x.musts ∧ (True)))) := rfl
mutual
def bkValue : GValue → Nat
  | ⟨x0, x1, x2, x3, x4⟩ => (bk1 x0 + (bk1 x1 + (bkStr x2 + ((bkValues x3 + 1) + ((bkMembers x4 + 1) + (0)))))) + 1
def bkMember : GMember → Nat
  | ⟨x0, x1⟩ => (bkStr x0 + (bkValue x1 + (0))) + 1
def bkValues : List GValue → Nat
  | [] => 0
  | x :: l => bkValue x + bkValues l
def bkMembers : List GMember → Nat
  | [] => 0
  | x :: l => bkMember x + bkMembers l
end
mutual
def gdValue : GValue → Prop
  | ⟨x0, x1, x2, x3, x4⟩ => (gdI .i64) x0 ∧ ((gdI .i64) x1 ∧ (gd1 x2 ∧ (gdValues x3 ∧ (gdMembers x4 ∧ (True)))))
def gdMember : GMember → Prop
  | ⟨x0, x1⟩ => gd1 x0 ∧ (gdValue x1 ∧ (True))
def gdValues : List GValue → Prop
  | [] => True
  | x :: l => gdValue x ∧ gdValues l
def gdMembers : List GMember → Prop
  | [] => True
  | x :: l => gdMember x ∧ gdMembers l
end
theorem bkValues_eq : ∀ (l : List GValue), bkValues l = sumL bkValue l
  | [] => by simp only [bkValues, sumL]
  | x :: l => by simp only [bkValues, sumL, bkValues_eq l]
theorem gdValues_eq : ∀ (l : List GValue), gdValues l = gdSl gdValue l
  | [] => by simp [gdValues, gdSl]
  | x :: l => by simp [gdValues, gdSl, gdValues_eq l]
theorem bkMembers_eq : ∀ (l : List GMember), bkMembers l = sumL bkMember l
  | [] => by simp only [bkMembers, sumL]
  | x :: l => by simp only [bkMembers, sumL, bkMembers_eq l]
theorem gdMembers_eq : ∀ (l : List GMember), gdMembers l = gdSl gdMember l
  | [] => by simp [gdMembers, gdSl]
  | x :: l => by simp [gdMembers, gdSl, gdMembers_eq l]
theorem bkValue_eq (x : GValue) : bkValue x = (bk1 x.kind + (bk1 x.n + (bkStr x.s + ((bkSl bkValue) x.l + ((bkSl bkMember) x.m + (0)))))) + 1 := by
  cases x; simp only [bkValue, bkSl, bkValues_eq, bkMembers_eq]
theorem gdValue_eq (x : GValue) : gdValue x = ((gdI .i64) x.kind ∧ ((gdI .i64) x.n ∧ (gd1 x.s ∧ ((gdSl gdValue) x.l ∧ ((gdSl gdMember) x.m ∧ (True)))))) := by
  cases x; simp only [gdValue, gdValues_eq, gdMembers_eq]
theorem bkMember_eq (x : GMember) : bkMember x = (bkStr x.name + (bkValue x.v + (0))) + 1 := by
  cases x; simp only [bkMember, bkSl, bkValues_eq, bkMembers_eq]
theorem gdMember_eq (x : GMember) : gdMember x = (gd1 x.name ∧ (gdValue x.v ∧ (True))) := by
  cases x; simp only [gdMember, gdValues_eq, gdMembers_eq]
def bkVarDef (x : GVarDef) : Nat := (bkStr x.name + (bkType x.t + (bk1 x.has + (bkValue x.default + (0))))) + 1
def gdVarDef (x : GVarDef) : Prop := gd1 x.name ∧ (gdType x.t ∧ (gd1 x.has ∧ (gdValue x.default ∧ (True))))
theorem bkVarDef_eq (x : GVarDef) : bkVarDef x = (bkStr x.name + (bkType x.t + (bk1 x.has + (bkValue x.default + (0))))) + 1 := rfl
theorem gdVarDef_eq (x : GVarDef) : gdVarDef x = (gd1 x.name ∧ (gdType x.t ∧ (gd1 x.has ∧ (gdValue x.default ∧ (True))))) := rfl
mutual
def bkNode : GNode → Nat
  | ⟨x0, x1, x2, x3, x4⟩ => (bk1 x0 + (bk1 x1 + (bkValue x2 + ((bkSl bkStr) x3 + ((bkNodes x4 + 1) + (0)))))) + 1
def bkNodes : List GNode → Nat
  | [] => 0
  | x :: l => bkNode x + bkNodes l
end
mutual
def gdNode : GNode → Prop
  | ⟨x0, x1, x2, x3, x4⟩ => (gdI .i64) x0 ∧ (gd1 x1 ∧ (gdValue x2 ∧ ((gdSl gd1) x3 ∧ (gdNodes x4 ∧ (True)))))
def gdNodes : List GNode → Prop
  | [] => True
  | x :: l => gdNode x ∧ gdNodes l
end
theorem bkNodes_eq : ∀ (l : List GNode), bkNodes l = sumL bkNode l
  | [] => by simp only [bkNodes, sumL]
  | x :: l => by simp only [bkNodes, sumL, bkNodes_eq l]
theorem gdNodes_eq : ∀ (l : List GNode), gdNodes l = gdSl gdNode l
  | [] => by simp [gdNodes, gdSl]
  | x :: l => by simp [gdNodes, gdSl, gdNodes_eq l]
theorem bkNode_eq (x : GNode) : bkNode x = (bk1 x.kind + (bk1 x.must + (bkValue x.v + ((bkSl bkStr) x.keys + ((bkSl bkNode) x.l + (0)))))) + 1 := by
  cases x; simp only [bkNode, bkSl, bkNodes_eq]
theorem gdNode_eq (x : GNode) : gdNode x = ((gdI .i64) x.kind ∧ (gd1 x.must ∧ (gdValue x.v ∧ ((gdSl gd1) x.keys ∧ ((gdSl gdNode) x.l ∧ (True)))))) := by
  cases x; simp only [gdNode, gdNodes_eq]
def bkStep (x : GStep) : Nat := (bkStr x.name + (bk1 x.at_ + (0))) + 1
def gdStep (x : GStep) : Prop := gd1 x.name ∧ ((gdI .i64) x.at_ ∧ (True))
theorem bkStep_eq (x : GStep) : bkStep x = (bkStr x.name + (bk1 x.at_ + (0))) + 1 := rfl
theorem gdStep_eq (x : GStep) : gdStep x = (gd1 x.name ∧ ((gdI .i64) x.at_ ∧ (True))) := rfl
def TS : Nat → TypeId
  | 0 => 23
  | 1 => 27
  | 2 => 49
  | 3 => 29
  | 4 => 39
  | _ => 47
def BS : Nat → Ty
  | 0 => (.fcons .str (.fcons (.int .i64) (.fcons (.int .i64) .fnil)))
  | 1 => (.fcons (.int .i64) (.fcons (.int .i64) (.fcons .str (.fcons (.sl (.ext 1)) (.fcons (.sl (.ext 2)) .fnil)))))
  | 2 => (.fcons .str (.fcons (.ext 1) .fnil))
  | 3 => (.fcons .str (.fcons (.ext 0) (.fcons .bool (.fcons (.ext 1) .fnil))))
  | 4 => (.fcons (.int .i64) (.fcons .bool (.fcons (.ext 1) (.fcons (.sl .str) (.fcons (.sl (.ext 4)) .fnil)))))
  | _ => (.fcons .str (.fcons (.int .i64) .fnil))
abbrev recType : RecTy := ⟨GType, encType, 3, bkType, gdType, fun x => wf_agg _ (encType_eq x) rfl rfl⟩
abbrev recValue : RecTy := ⟨GValue, encValue, 5, bkValue, gdValue, fun x => wf_agg _ (encValue_eq x) rfl rfl⟩
abbrev recMember : RecTy := ⟨GMember, encMember, 6, bkMember, gdMember, fun x => wf_agg _ (encMember_eq x) rfl rfl⟩
abbrev recVarDef : RecTy := ⟨GVarDef, encVarDef, 10, bkVarDef, gdVarDef, fun x => wf_agg _ (encVarDef_eq x) rfl rfl⟩
abbrev recNode : RecTy := ⟨GNode, encNode, 9, bkNode, gdNode, fun x => wf_agg _ (encNode_eq x) rfl rfl⟩
abbrev recStep : RecTy := ⟨GStep, encStep, 2, bkStep, gdStep, fun x => wf_agg _ (encStep_eq x) rfl rfl⟩
abbrev RS : REnv
  | 0 => recType
  | 1 => recValue
  | 2 => recMember
  | 3 => recVarDef
  | 4 => recNode
  | _ => recStep
theorem hty : ∀ i, ∃ F, Try.prog.underlying (TS i) = some (.struct F) ∧ Try.prog.cellsOf (TS i) = (BS i).size RS ∧ flds RS Try.prog (tyOk RS TS Try.prog 9) F.toList 0 (BS i) = true
  | 0 => ⟨_, Try.underlying23, by kernel_rfl, by kernel_rfl⟩
  | 1 => ⟨_, Try.underlying27, by kernel_rfl, by kernel_rfl⟩
  | 2 => ⟨_, Try.underlying49, by kernel_rfl, by kernel_rfl⟩
  | 3 => ⟨_, Try.underlying29, by kernel_rfl, by kernel_rfl⟩
  | 4 => ⟨_, Try.underlying39, by kernel_rfl, by kernel_rfl⟩
  | _ + 5 => ⟨_, Try.underlying47, by kernel_rfl, by kernel_rfl⟩
theorem cvType (x0 : Str) (x1 : Int) (x2 : Int) : encType ⟨x0, x1, x2⟩ = (PV.agg ((PV.str x0).cells ++ (PV.agg (((PV.int .i64) x1).cells ++ (PV.agg (((PV.int .i64) x2).cells ++ (PV.agg []).cells)).cells)).cells)) := by
  simp only [tys, cells, List.cons_append, List.nil_append]
theorem cvValue (x0 : Int) (x1 : Int) (x2 : Str) (x3 : List GValue) (x4 : List GMember) : encValue ⟨x0, x1, x2, x3, x4⟩ = (PV.agg (((PV.int .i64) x0).cells ++ (PV.agg (((PV.int .i64) x1).cells ++ (PV.agg ((PV.str x2).cells ++ (PV.agg ((PV.slice (List.map encValue x3) [] false).cells ++ (PV.agg ((PV.slice (List.map encMember x4) [] false).cells ++ (PV.agg []).cells)).cells)).cells)).cells)).cells)) := by
  simp only [tys, cells, List.cons_append, List.nil_append]
theorem cvMember (x0 : Str) (x1 : GValue) : encMember ⟨x0, x1⟩ = (PV.agg ((PV.str x0).cells ++ (PV.agg ((encValue x1).cells ++ (PV.agg []).cells)).cells)) := by
  simp only [tys, cells, List.cons_append, List.nil_append]
theorem cvVarDef (x0 : Str) (x1 : GType) (x2 : Bool) (x3 : GValue) : encVarDef ⟨x0, x1, x2, x3⟩ = (PV.agg ((PV.str x0).cells ++ (PV.agg ((encType x1).cells ++ (PV.agg ((PV.bool x2).cells ++ (PV.agg ((encValue x3).cells ++ (PV.agg []).cells)).cells)).cells)).cells)) := by
  simp only [tys, cells, List.cons_append, List.nil_append]
theorem cvNode (x0 : Int) (x1 : Bool) (x2 : GValue) (x3 : List Str) (x4 : List GNode) : encNode ⟨x0, x1, x2, x3, x4⟩ = (PV.agg (((PV.int .i64) x0).cells ++ (PV.agg ((PV.bool x1).cells ++ (PV.agg ((encValue x2).cells ++ (PV.agg ((PV.slice (List.map PV.str x3) [] false).cells ++ (PV.agg ((PV.slice (List.map encNode x4) [] false).cells ++ (PV.agg []).cells)).cells)).cells)).cells)).cells)) := by
  simp only [tys, cells, List.cons_append, List.nil_append]
theorem cvStep (x0 : Str) (x1 : Int) : encStep ⟨x0, x1⟩ = (PV.agg ((PV.str x0).cells ++ (PV.agg (((PV.int .i64) x1).cells ++ (PV.agg []).cells)).cells)) := by
  simp only [tys, cells, List.cons_append, List.nil_append]
theorem hcv : ∀ i (x : (BS i).den RS), ∃ y : (RS i).D, (RS i).en y = enc RS (BS i) x ∧ (RS i).bk y ≤ bulk RS (BS i) x + 1 ∧ (good RS (BS i) x → (RS i).gd y)
  | 0, ⟨x0, x1, x2, _⟩ => ⟨(⟨x0, x1, x2⟩ : GType), (cvType x0 x1 x2).trans rfl, Nat.le_of_eq ((bkType_eq _).trans rfl), fun h => (gdType_eq _).mpr h⟩
  | 1, ⟨x0, x1, x2, x3, x4, _⟩ => ⟨(⟨x0, x1, x2, x3, x4⟩ : GValue), (cvValue x0 x1 x2 x3 x4).trans rfl, Nat.le_of_eq ((bkValue_eq _).trans rfl), fun h => (gdValue_eq _).mpr h⟩
  | 2, ⟨x0, x1, _⟩ => ⟨(⟨x0, x1⟩ : GMember), (cvMember x0 x1).trans rfl, Nat.le_of_eq ((bkMember_eq _).trans rfl), fun h => (gdMember_eq _).mpr h⟩
  | 3, ⟨x0, x1, x2, x3, _⟩ => ⟨(⟨x0, x1, x2, x3⟩ : GVarDef), (cvVarDef x0 x1 x2 x3).trans rfl, Nat.le_of_eq ((bkVarDef_eq _).trans rfl), fun h => (gdVarDef_eq _).mpr h⟩
  | 4, ⟨x0, x1, x2, x3, x4, _⟩ => ⟨(⟨x0, x1, x2, x3, x4⟩ : GNode), (cvNode x0 x1 x2 x3 x4).trans rfl, Nat.le_of_eq ((bkNode_eq _).trans rfl), fun h => (gdNode_eq _).mpr h⟩
  | _ + 5, ⟨x0, x1, _⟩ => ⟨(⟨x0, x1⟩ : GStep), (cvStep x0 x1).trans rfl, Nat.le_of_eq ((bkStep_eq _).trans rfl), fun h => (gdStep_eq _).mpr h⟩
theorem rok {H : Type} (e : TypeId × Value → H) (W : World) {bl : DataW H → Nat} {bla : List (DataW H) → Nat} (hb : BlOk bl bla) : ROk RS TS e Try.prog W bl where
  op := open_ext hb 9 BS hty hcv
  ag := fun i => match i with
    | 0 => fun x => ⟨_, encType_eq x⟩
    | 1 => fun x => ⟨_, encValue_eq x⟩
    | 2 => fun x => ⟨_, encMember_eq x⟩
    | 3 => fun x => ⟨_, encVarDef_eq x⟩
    | 4 => fun x => ⟨_, encNode_eq x⟩
    | _ + 5 => fun x => ⟨_, encStep_eq x⟩
  st := fun i => (hty i).imp fun F h => h.1
end Go.Proofs.Ytoddajoeiamidaa
