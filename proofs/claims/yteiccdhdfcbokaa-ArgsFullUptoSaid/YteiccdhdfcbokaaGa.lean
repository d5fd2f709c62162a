import Derived.Test.YteiccdhdfcbokaaEd
import Derived.Test.YteiccdhdfcbokaaProg
import Derived.KernelRfl
set_option linter.unusedVariables false
set_option linter.unusedSimpArgs false
/- Printed by symgen.py: what the functions of this seat compute, as typed functions, and why. -/
set_option linter.unusedVariables false
set_option linter.unusedSimpArgs false
open Go Go.Ev Go.Ev.PV
namespace Go.Proofs.Yteiccdhdfcbokaa
structure GType where
  name : Str
  lists : Int
  musts : Int

mutual
structure GValue where
  kind : Int
  n : Int
  s : Str
  l : List GValue
  m : List GMember

structure GMember where
  name : Str
  v : GValue

end
structure GParam where
  name : Str
  t : GType
  has : Bool
  default : GValue

structure GDir where
  name : Str
  args : List GMember

structure GFieldDef where
  name : Str
  params : List GParam
  t : GType
  dirs : List GDir

structure GDef where
  kind : Int
  name : Str
  faces : List Str
  fields : List GFieldDef
  parts : List Str
  params : List GParam

structure GSchema where
  defs : List GDef
  query : Str
  mutation : Str

structure GSel where
  kind : Int
  alias : Str
  name : Str
  args : List GMember
  dirs : List GDir
  on_ : Str
  sels : List GSel

structure GVarDef where
  name : Str
  t : GType
  has : Bool
  default : GValue

structure GOp where
  kind : Int
  name : Str
  vars : List GVarDef
  dirs : List GDir
  sels : List GSel

structure GFrag where
  name : Str
  on_ : Str
  dirs : List GDir
  sels : List GSel

structure GDoc where
  ops : List GOp
  frags : List GFrag

def shType : Sh := .agg [.str, (.int .i64), (.int .i64)]
def shValue : Sh := .agg [(.int .i64), (.int .i64), .str, (.sl false), (.sl false)]
def shMember : Sh := .agg [.str, (.int .i64), (.int .i64), .str, (.sl false), (.sl false)]
def shParam : Sh := .agg [.str, .str, (.int .i64), (.int .i64), .bool, (.int .i64), (.int .i64), .str, (.sl false), (.sl false)]
def shDir : Sh := .agg [.str, (.sl false)]
def shFieldDef : Sh := .agg [.str, (.sl false), .str, (.int .i64), (.int .i64), (.sl false)]
def shDef : Sh := .agg [(.int .i64), .str, (.sl false), (.sl false), (.sl false), (.sl false)]
def shSchema : Sh := .agg [(.sl false), .str, .str]
def shSel : Sh := .agg [(.int .i64), .str, .str, (.sl false), (.sl false), .str, (.sl false)]
def shVarDef : Sh := .agg [.str, .str, (.int .i64), (.int .i64), .bool, (.int .i64), (.int .i64), .str, (.sl false), (.sl false)]
def shOp : Sh := .agg [(.int .i64), .str, (.sl false), (.sl false), (.sl false)]
def shFrag : Sh := .agg [.str, .str, (.sl false), (.sl false)]
def shDoc : Sh := .agg [(.sl false), (.sl false)]
def encType (x : GType) : PV := .agg [.str x.name, .int .i64 x.lists, .int .i64 x.musts]
theorem encType_eq (x : GType) : encType x = .agg [.str x.name, .int .i64 x.lists, .int .i64 x.musts] := rfl
theorem chk_GType (x : GType) : chk shType (encType x) = true := by rw [encType_eq]; rfl
theorem inj_GType (a b : GType) (h : encType a = encType b) : a = b := by
  simp only [encType_eq, PV.agg.injEq, List.cons.injEq, PV.slice.injEq, PV.str.injEq, PV.int.injEq, PV.bool.injEq, true_and, and_true] at h
  obtain ⟨a0, a1, a2⟩ := a
  obtain ⟨b0, b1, b2⟩ := b
  dsimp only at h
  have e0 := h.1
  have e1 := h.2.1
  have e2 := h.2.2
  subst e0 e1 e2
  rfl
mutual
def encValue : GValue → PV
  | ⟨x0, x1, x2, x3, x4⟩ => .agg ([.int .i64 x0, .int .i64 x1, .str x2, .slice (encValues x3) [] false, .slice (encMembers x4) [] false])
def encMember : GMember → PV
  | ⟨x0, x1⟩ => .agg ([.str x0] ++ (encValue x1).cells)
def encValues : List GValue → List PV
  | [] => []
  | x :: l => encValue x :: encValues l
def encMembers : List GMember → List PV
  | [] => []
  | x :: l => encMember x :: encMembers l
end
theorem encValues_eq : ∀ (l : List GValue), encValues l = List.map encValue l
  | [] => by simp only [encValues, List.map]
  | x :: l => by simp only [encValues, List.map, encValues_eq l]
theorem encMembers_eq : ∀ (l : List GMember), encMembers l = List.map encMember l
  | [] => by simp only [encMembers, List.map]
  | x :: l => by simp only [encMembers, List.map, encMembers_eq l]
theorem encValue_eq (x : GValue) : encValue x = .agg [.int .i64 x.kind, .int .i64 x.n, .str x.s, .slice (List.map encValue x.l) [] false, .slice (List.map encMember x.m) [] false] := by
  cases x; simp only [encValue, cells, List.cons_append, List.nil_append, encValues_eq, encMembers_eq]
theorem encMember_eq (x : GMember) : encMember x = .agg [.str x.name, .int .i64 x.v.kind, .int .i64 x.v.n, .str x.v.s, .slice (List.map encValue x.v.l) [] false, .slice (List.map encMember x.v.m) [] false] := by
  cases x; simp only [encMember, cells, List.cons_append, List.nil_append, encValues_eq, encMembers_eq, encValue_eq]
theorem chk_GValue (x : GValue) : chk shValue (encValue x) = true := by rw [encValue_eq]; rfl
theorem chk_GMember (x : GMember) : chk shMember (encMember x) = true := by rw [encMember_eq]; rfl
mutual
theorem inj_GValue : ∀ (a b : GValue), encValue a = encValue b → a = b
  | ⟨a0, a1, a2, a3, a4⟩, ⟨b0, b1, b2, b3, b4⟩, h => by
    simp only [encValue, PV.agg.injEq, List.cons.injEq, List.append_eq, PV.slice.injEq, PV.str.injEq, PV.int.injEq, PV.bool.injEq, true_and, and_true] at h
    have e0 := h.1
    have e1 := h.2.1
    have e2 := h.2.2.1
    have e3 := inj_GValues _ _ h.2.2.2.1
    have e4 := inj_GMembers _ _ h.2.2.2.2
    subst e0 e1 e2 e3 e4
    rfl
theorem inj_GMember : ∀ (a b : GMember), encMember a = encMember b → a = b
  | ⟨a0, a1⟩, ⟨b0, b1⟩, h => by
    simp only [encMember, PV.agg.injEq, List.cons_append, List.nil_append, List.cons.injEq, PV.slice.injEq, PV.str.injEq, PV.int.injEq, PV.bool.injEq, true_and, and_true] at h
    have e0 := h.1
    have e1 := inj_GValue a1 b1 (by
      have h' := h.2
      cases a1; cases b1; simp only [encValue, cells] at h' ⊢; rw [h'])
    subst e0 e1
    rfl
theorem inj_GValues : ∀ (a b : List GValue), encValues a = encValues b → a = b
  | [], [], _ => rfl
  | [], _ :: _, h => by simp [encValues] at h
  | _ :: _, [], h => by simp [encValues] at h
  | x :: l, y :: m, h => by
    simp only [encValues, List.cons.injEq] at h
    rw [inj_GValue x y h.1, inj_GValues l m h.2]
theorem inj_GMembers : ∀ (a b : List GMember), encMembers a = encMembers b → a = b
  | [], [], _ => rfl
  | [], _ :: _, h => by simp [encMembers] at h
  | _ :: _, [], h => by simp [encMembers] at h
  | x :: l, y :: m, h => by
    simp only [encMembers, List.cons.injEq] at h
    rw [inj_GMember x y h.1, inj_GMembers l m h.2]
end
def encParam (x : GParam) : PV := .agg [.str x.name, .str x.t.name, .int .i64 x.t.lists, .int .i64 x.t.musts, .bool x.has, .int .i64 x.default.kind, .int .i64 x.default.n, .str x.default.s, .slice (List.map encValue x.default.l) [] false, .slice (List.map encMember x.default.m) [] false]
theorem encParam_eq (x : GParam) : encParam x = .agg [.str x.name, .str x.t.name, .int .i64 x.t.lists, .int .i64 x.t.musts, .bool x.has, .int .i64 x.default.kind, .int .i64 x.default.n, .str x.default.s, .slice (List.map encValue x.default.l) [] false, .slice (List.map encMember x.default.m) [] false] := rfl
theorem chk_GParam (x : GParam) : chk shParam (encParam x) = true := by rw [encParam_eq]; rfl
theorem inj_GParam (a b : GParam) (h : encParam a = encParam b) : a = b := by
  simp only [encParam_eq, PV.agg.injEq, List.cons.injEq, PV.slice.injEq, PV.str.injEq, PV.int.injEq, PV.bool.injEq, true_and, and_true] at h
  obtain ⟨a0, ⟨a1, a2, a3⟩, a4, ⟨a5, a6, a7, a8, a9⟩⟩ := a
  obtain ⟨b0, ⟨b1, b2, b3⟩, b4, ⟨b5, b6, b7, b8, b9⟩⟩ := b
  dsimp only at h
  have e0 := h.1
  have e1 := h.2.1
  have e2 := h.2.2.1
  have e3 := h.2.2.2.1
  have e4 := h.2.2.2.2.1
  have e5 := h.2.2.2.2.2.1
  have e6 := h.2.2.2.2.2.2.1
  have e7 := h.2.2.2.2.2.2.2.1
  have e8 := map_inj' inj_GValue h.2.2.2.2.2.2.2.2.1
  have e9 := map_inj' inj_GMember h.2.2.2.2.2.2.2.2.2
  subst e0 e1 e2 e3 e4 e5 e6 e7 e8 e9
  rfl
def encDir (x : GDir) : PV := .agg [.str x.name, .slice (List.map encMember x.args) [] false]
theorem encDir_eq (x : GDir) : encDir x = .agg [.str x.name, .slice (List.map encMember x.args) [] false] := rfl
theorem chk_GDir (x : GDir) : chk shDir (encDir x) = true := by rw [encDir_eq]; rfl
theorem inj_GDir (a b : GDir) (h : encDir a = encDir b) : a = b := by
  simp only [encDir_eq, PV.agg.injEq, List.cons.injEq, PV.slice.injEq, PV.str.injEq, PV.int.injEq, PV.bool.injEq, true_and, and_true] at h
  obtain ⟨a0, a1⟩ := a
  obtain ⟨b0, b1⟩ := b
  dsimp only at h
  have e0 := h.1
  have e1 := map_inj' inj_GMember h.2
  subst e0 e1
  rfl
def encFieldDef (x : GFieldDef) : PV := .agg [.str x.name, .slice (List.map encParam x.params) [] false, .str x.t.name, .int .i64 x.t.lists, .int .i64 x.t.musts, .slice (List.map encDir x.dirs) [] false]
theorem encFieldDef_eq (x : GFieldDef) : encFieldDef x = .agg [.str x.name, .slice (List.map encParam x.params) [] false, .str x.t.name, .int .i64 x.t.lists, .int .i64 x.t.musts, .slice (List.map encDir x.dirs) [] false] := rfl
theorem chk_GFieldDef (x : GFieldDef) : chk shFieldDef (encFieldDef x) = true := by rw [encFieldDef_eq]; rfl
theorem inj_GFieldDef (a b : GFieldDef) (h : encFieldDef a = encFieldDef b) : a = b := by
  simp only [encFieldDef_eq, PV.agg.injEq, List.cons.injEq, PV.slice.injEq, PV.str.injEq, PV.int.injEq, PV.bool.injEq, true_and, and_true] at h
  obtain ⟨a0, a1, ⟨a2, a3, a4⟩, a5⟩ := a
  obtain ⟨b0, b1, ⟨b2, b3, b4⟩, b5⟩ := b
  dsimp only at h
  have e0 := h.1
  have e1 := map_inj' inj_GParam h.2.1
  have e2 := h.2.2.1
  have e3 := h.2.2.2.1
  have e4 := h.2.2.2.2.1
  have e5 := map_inj' inj_GDir h.2.2.2.2.2
  subst e0 e1 e2 e3 e4 e5
  rfl
def encDef (x : GDef) : PV := .agg [.int .i64 x.kind, .str x.name, .slice (List.map PV.str x.faces) [] false, .slice (List.map encFieldDef x.fields) [] false, .slice (List.map PV.str x.parts) [] false, .slice (List.map encParam x.params) [] false]
theorem encDef_eq (x : GDef) : encDef x = .agg [.int .i64 x.kind, .str x.name, .slice (List.map PV.str x.faces) [] false, .slice (List.map encFieldDef x.fields) [] false, .slice (List.map PV.str x.parts) [] false, .slice (List.map encParam x.params) [] false] := rfl
theorem chk_GDef (x : GDef) : chk shDef (encDef x) = true := by rw [encDef_eq]; rfl
theorem inj_GDef (a b : GDef) (h : encDef a = encDef b) : a = b := by
  simp only [encDef_eq, PV.agg.injEq, List.cons.injEq, PV.slice.injEq, PV.str.injEq, PV.int.injEq, PV.bool.injEq, true_and, and_true] at h
  obtain ⟨a0, a1, a2, a3, a4, a5⟩ := a
  obtain ⟨b0, b1, b2, b3, b4, b5⟩ := b
  dsimp only at h
  have e0 := h.1
  have e1 := h.2.1
  have e2 := map_inj' Ev.str_inj h.2.2.1
  have e3 := map_inj' inj_GFieldDef h.2.2.2.1
  have e4 := map_inj' Ev.str_inj h.2.2.2.2.1
  have e5 := map_inj' inj_GParam h.2.2.2.2.2
  subst e0 e1 e2 e3 e4 e5
  rfl
def encSchema (x : GSchema) : PV := .agg [.slice (List.map encDef x.defs) [] false, .str x.query, .str x.mutation]
theorem encSchema_eq (x : GSchema) : encSchema x = .agg [.slice (List.map encDef x.defs) [] false, .str x.query, .str x.mutation] := rfl
theorem chk_GSchema (x : GSchema) : chk shSchema (encSchema x) = true := by rw [encSchema_eq]; rfl
theorem inj_GSchema (a b : GSchema) (h : encSchema a = encSchema b) : a = b := by
  simp only [encSchema_eq, PV.agg.injEq, List.cons.injEq, PV.slice.injEq, PV.str.injEq, PV.int.injEq, PV.bool.injEq, true_and, and_true] at h
  obtain ⟨a0, a1, a2⟩ := a
  obtain ⟨b0, b1, b2⟩ := b
  dsimp only at h
  have e0 := map_inj' inj_GDef h.1
  have e1 := h.2.1
  have e2 := h.2.2
  subst e0 e1 e2
  rfl
mutual
def encSel : GSel → PV
  | ⟨x0, x1, x2, x3, x4, x5, x6⟩ => .agg ([.int .i64 x0, .str x1, .str x2, .slice (List.map encMember x3) [] false, .slice (List.map encDir x4) [] false, .str x5, .slice (encSels x6) [] false])
def encSels : List GSel → List PV
  | [] => []
  | x :: l => encSel x :: encSels l
end
theorem encSels_eq : ∀ (l : List GSel), encSels l = List.map encSel l
  | [] => by simp only [encSels, List.map]
  | x :: l => by simp only [encSels, List.map, encSels_eq l]
theorem encSel_eq (x : GSel) : encSel x = .agg [.int .i64 x.kind, .str x.alias, .str x.name, .slice (List.map encMember x.args) [] false, .slice (List.map encDir x.dirs) [] false, .str x.on_, .slice (List.map encSel x.sels) [] false] := by
  cases x; simp only [encSel, cells, List.cons_append, List.nil_append, encSels_eq]
theorem chk_GSel (x : GSel) : chk shSel (encSel x) = true := by rw [encSel_eq]; rfl
mutual
theorem inj_GSel : ∀ (a b : GSel), encSel a = encSel b → a = b
  | ⟨a0, a1, a2, a3, a4, a5, a6⟩, ⟨b0, b1, b2, b3, b4, b5, b6⟩, h => by
    simp only [encSel, PV.agg.injEq, List.cons.injEq, List.append_eq, PV.slice.injEq, PV.str.injEq, PV.int.injEq, PV.bool.injEq, true_and, and_true] at h
    have e0 := h.1
    have e1 := h.2.1
    have e2 := h.2.2.1
    have e3 := map_inj' inj_GMember h.2.2.2.1
    have e4 := map_inj' inj_GDir h.2.2.2.2.1
    have e5 := h.2.2.2.2.2.1
    have e6 := inj_GSels _ _ h.2.2.2.2.2.2
    subst e0 e1 e2 e3 e4 e5 e6
    rfl
theorem inj_GSels : ∀ (a b : List GSel), encSels a = encSels b → a = b
  | [], [], _ => rfl
  | [], _ :: _, h => by simp [encSels] at h
  | _ :: _, [], h => by simp [encSels] at h
  | x :: l, y :: m, h => by
    simp only [encSels, List.cons.injEq] at h
    rw [inj_GSel x y h.1, inj_GSels l m h.2]
end
def encVarDef (x : GVarDef) : PV := .agg [.str x.name, .str x.t.name, .int .i64 x.t.lists, .int .i64 x.t.musts, .bool x.has, .int .i64 x.default.kind, .int .i64 x.default.n, .str x.default.s, .slice (List.map encValue x.default.l) [] false, .slice (List.map encMember x.default.m) [] false]
theorem encVarDef_eq (x : GVarDef) : encVarDef x = .agg [.str x.name, .str x.t.name, .int .i64 x.t.lists, .int .i64 x.t.musts, .bool x.has, .int .i64 x.default.kind, .int .i64 x.default.n, .str x.default.s, .slice (List.map encValue x.default.l) [] false, .slice (List.map encMember x.default.m) [] false] := rfl
theorem chk_GVarDef (x : GVarDef) : chk shVarDef (encVarDef x) = true := by rw [encVarDef_eq]; rfl
theorem inj_GVarDef (a b : GVarDef) (h : encVarDef a = encVarDef b) : a = b := by
  simp only [encVarDef_eq, PV.agg.injEq, List.cons.injEq, PV.slice.injEq, PV.str.injEq, PV.int.injEq, PV.bool.injEq, true_and, and_true] at h
  obtain ⟨a0, ⟨a1, a2, a3⟩, a4, ⟨a5, a6, a7, a8, a9⟩⟩ := a
  obtain ⟨b0, ⟨b1, b2, b3⟩, b4, ⟨b5, b6, b7, b8, b9⟩⟩ := b
  dsimp only at h
  have e0 := h.1
  have e1 := h.2.1
  have e2 := h.2.2.1
  have e3 := h.2.2.2.1
  have e4 := h.2.2.2.2.1
  have e5 := h.2.2.2.2.2.1
  have e6 := h.2.2.2.2.2.2.1
  have e7 := h.2.2.2.2.2.2.2.1
  have e8 := map_inj' inj_GValue h.2.2.2.2.2.2.2.2.1
  have e9 := map_inj' inj_GMember h.2.2.2.2.2.2.2.2.2
  subst e0 e1 e2 e3 e4 e5 e6 e7 e8 e9
  rfl
def encOp (x : GOp) : PV := .agg [.int .i64 x.kind, .str x.name, .slice (List.map encVarDef x.vars) [] false, .slice (List.map encDir x.dirs) [] false, .slice (List.map encSel x.sels) [] false]
theorem encOp_eq (x : GOp) : encOp x = .agg [.int .i64 x.kind, .str x.name, .slice (List.map encVarDef x.vars) [] false, .slice (List.map encDir x.dirs) [] false, .slice (List.map encSel x.sels) [] false] := rfl
theorem chk_GOp (x : GOp) : chk shOp (encOp x) = true := by rw [encOp_eq]; rfl
theorem inj_GOp (a b : GOp) (h : encOp a = encOp b) : a = b := by
  simp only [encOp_eq, PV.agg.injEq, List.cons.injEq, PV.slice.injEq, PV.str.injEq, PV.int.injEq, PV.bool.injEq, true_and, and_true] at h
  obtain ⟨a0, a1, a2, a3, a4⟩ := a
  obtain ⟨b0, b1, b2, b3, b4⟩ := b
  dsimp only at h
  have e0 := h.1
  have e1 := h.2.1
  have e2 := map_inj' inj_GVarDef h.2.2.1
  have e3 := map_inj' inj_GDir h.2.2.2.1
  have e4 := map_inj' inj_GSel h.2.2.2.2
  subst e0 e1 e2 e3 e4
  rfl
def encFrag (x : GFrag) : PV := .agg [.str x.name, .str x.on_, .slice (List.map encDir x.dirs) [] false, .slice (List.map encSel x.sels) [] false]
theorem encFrag_eq (x : GFrag) : encFrag x = .agg [.str x.name, .str x.on_, .slice (List.map encDir x.dirs) [] false, .slice (List.map encSel x.sels) [] false] := rfl
theorem chk_GFrag (x : GFrag) : chk shFrag (encFrag x) = true := by rw [encFrag_eq]; rfl
theorem inj_GFrag (a b : GFrag) (h : encFrag a = encFrag b) : a = b := by
  simp only [encFrag_eq, PV.agg.injEq, List.cons.injEq, PV.slice.injEq, PV.str.injEq, PV.int.injEq, PV.bool.injEq, true_and, and_true] at h
  obtain ⟨a0, a1, a2, a3⟩ := a
  obtain ⟨b0, b1, b2, b3⟩ := b
  dsimp only at h
  have e0 := h.1
  have e1 := h.2.1
  have e2 := map_inj' inj_GDir h.2.2.1
  have e3 := map_inj' inj_GSel h.2.2.2
  subst e0 e1 e2 e3
  rfl
def encDoc (x : GDoc) : PV := .agg [.slice (List.map encOp x.ops) [] false, .slice (List.map encFrag x.frags) [] false]
theorem encDoc_eq (x : GDoc) : encDoc x = .agg [.slice (List.map encOp x.ops) [] false, .slice (List.map encFrag x.frags) [] false] := rfl
theorem chk_GDoc (x : GDoc) : chk shDoc (encDoc x) = true := by rw [encDoc_eq]; rfl
theorem inj_GDoc (a b : GDoc) (h : encDoc a = encDoc b) : a = b := by
  simp only [encDoc_eq, PV.agg.injEq, List.cons.injEq, PV.slice.injEq, PV.str.injEq, PV.int.injEq, PV.bool.injEq, true_and, and_true] at h
  obtain ⟨a0, a1⟩ := a
  obtain ⟨b0, b1⟩ := b
  dsimp only at h
  have e0 := map_inj' inj_GOp h.1
  have e1 := map_inj' inj_GFrag h.2
  subst e0 e1
  rfl
theorem tys : (∀ x : GType, encType x = .agg [.str x.name, .int .i64 x.lists, .int .i64 x.musts]) ∧
    (∀ x : GValue, encValue x = .agg [.int .i64 x.kind, .int .i64 x.n, .str x.s, .slice (List.map encValue x.l) [] false, .slice (List.map encMember x.m) [] false]) ∧
    (∀ x : GMember, encMember x = .agg [.str x.name, .int .i64 x.v.kind, .int .i64 x.v.n, .str x.v.s, .slice (List.map encValue x.v.l) [] false, .slice (List.map encMember x.v.m) [] false]) ∧
    (∀ x : GParam, encParam x = .agg [.str x.name, .str x.t.name, .int .i64 x.t.lists, .int .i64 x.t.musts, .bool x.has, .int .i64 x.default.kind, .int .i64 x.default.n, .str x.default.s, .slice (List.map encValue x.default.l) [] false, .slice (List.map encMember x.default.m) [] false]) ∧
    (∀ x : GDir, encDir x = .agg [.str x.name, .slice (List.map encMember x.args) [] false]) ∧
    (∀ x : GFieldDef, encFieldDef x = .agg [.str x.name, .slice (List.map encParam x.params) [] false, .str x.t.name, .int .i64 x.t.lists, .int .i64 x.t.musts, .slice (List.map encDir x.dirs) [] false]) ∧
    (∀ x : GDef, encDef x = .agg [.int .i64 x.kind, .str x.name, .slice (List.map PV.str x.faces) [] false, .slice (List.map encFieldDef x.fields) [] false, .slice (List.map PV.str x.parts) [] false, .slice (List.map encParam x.params) [] false]) ∧
    (∀ x : GSchema, encSchema x = .agg [.slice (List.map encDef x.defs) [] false, .str x.query, .str x.mutation]) ∧
    (∀ x : GSel, encSel x = .agg [.int .i64 x.kind, .str x.alias, .str x.name, .slice (List.map encMember x.args) [] false, .slice (List.map encDir x.dirs) [] false, .str x.on_, .slice (List.map encSel x.sels) [] false]) ∧
    (∀ x : GVarDef, encVarDef x = .agg [.str x.name, .str x.t.name, .int .i64 x.t.lists, .int .i64 x.t.musts, .bool x.has, .int .i64 x.default.kind, .int .i64 x.default.n, .str x.default.s, .slice (List.map encValue x.default.l) [] false, .slice (List.map encMember x.default.m) [] false]) ∧
    (∀ x : GOp, encOp x = .agg [.int .i64 x.kind, .str x.name, .slice (List.map encVarDef x.vars) [] false, .slice (List.map encDir x.dirs) [] false, .slice (List.map encSel x.sels) [] false]) ∧
    (∀ x : GFrag, encFrag x = .agg [.str x.name, .str x.on_, .slice (List.map encDir x.dirs) [] false, .slice (List.map encSel x.sels) [] false]) ∧
    (∀ x : GDoc, encDoc x = .agg [.slice (List.map encOp x.ops) [] false, .slice (List.map encFrag x.frags) [] false]) := ⟨encType_eq, encValue_eq, encMember_eq, encParam_eq, encDir_eq, encFieldDef_eq, encDef_eq, encSchema_eq, encSel_eq, encVarDef_eq, encOp_eq, encFrag_eq, encDoc_eq⟩
theorem chks : (∀ x, chk shType (encType x) = true) ∧
    (∀ x, chk shValue (encValue x) = true) ∧
    (∀ x, chk shMember (encMember x) = true) ∧
    (∀ x, chk shParam (encParam x) = true) ∧
    (∀ x, chk shDir (encDir x) = true) ∧
    (∀ x, chk shFieldDef (encFieldDef x) = true) ∧
    (∀ x, chk shDef (encDef x) = true) ∧
    (∀ x, chk shSchema (encSchema x) = true) ∧
    (∀ x, chk shSel (encSel x) = true) ∧
    (∀ x, chk shVarDef (encVarDef x) = true) ∧
    (∀ x, chk shOp (encOp x) = true) ∧
    (∀ x, chk shFrag (encFrag x) = true) ∧
    (∀ x, chk shDoc (encDoc x) = true) := ⟨chk_GType, chk_GValue, chk_GMember, chk_GParam, chk_GDir, chk_GFieldDef, chk_GDef, chk_GSchema, chk_GSel, chk_GVarDef, chk_GOp, chk_GFrag, chk_GDoc⟩
end Go.Proofs.Yteiccdhdfcbokaa

/- Printed by symgen.py: the functions, seen from outside. -/
set_option linter.unusedVariables false
set_option linter.unusedSimpArgs false
open Go Go.Ev Go.Ev.PV
namespace Go.Proofs.Yteiccdhdfcbokaa
def MTL : List (Nat × Hints) := [(3, { takes := [], gens := [], keeps := [], own := false, drop := true }),
  (12, { takes := [], gens := [], keeps := [(2, [0, 2, 7, 8, 9])], own := false, drop := true }),
  (4, { takes := [60], gens := [], keeps := [], own := false, drop := true }),
  (6, { takes := [], gens := [], keeps := [], own := false, drop := true }),
  (5, { takes := [45], gens := [], keeps := [(6, [0, 1, 5, 6, 7]), (9, [0, 1, 5, 6, 7, 8])], own := false, drop := true }),
  (10, { takes := [], gens := [], keeps := [(2, [0, 4, 9, 10, 11])], own := false, drop := true }),
  (7, { takes := [], gens := [], keeps := [], own := false, drop := true }),
  (8, { takes := [], gens := [], keeps := [], own := false, drop := true }),
  (9, { takes := [11], gens := [], keeps := [(3, [0, 3, 4])], own := false, drop := true }),
  (11, { takes := [], gens := [], keeps := [(2, [0, 1, 4, 5])], own := false, drop := true }),
  (13, { takes := [], gens := [], keeps := [(2, [0, 2, 3]), (5, [0, 2, 3, 4])], own := false, drop := true }),
  (14, { takes := [], gens := [], keeps := [(2, [1, 4, 9, 10, 11])], own := false, drop := true }),
  (15, { takes := [], gens := [], keeps := [(2, [0, 1, 4, 5])], own := false, drop := true }),
  (16, { takes := [], gens := [], keeps := [(4, [0, 1, 4, 5])], own := false, drop := true }),
  (17, { takes := [], gens := [], keeps := [(4, [0, 1, 4, 5])], own := false, drop := true }),
  (26, { takes := [], gens := [], keeps := [(2, [0, 4, 5, 8, 9, 10])], own := false, drop := true }),
  (19, { takes := [], gens := [], keeps := [(3, [1, 3, 4]), (8, [1, 3, 4, 5, 6])], own := false, drop := true }),
  (20, { takes := [], gens := [], keeps := [(3, [1, 3, 4]), (7, [1, 3, 5])], own := false, drop := true }),
  (18, { takes := [], gens := [], keeps := [], own := false, drop := true }),
  (22, { takes := [], gens := [], keeps := [], own := false, drop := true }),
  (43, { takes := [], gens := [], keeps := [(6, [3, 6, 30, 31, 32])], own := false, drop := true }),
  (49, { takes := [], gens := [21, 31], keeps := [(3, [1, 3, 4, 9, 12, 13, 14])], own := false, drop := true }),
  (42, { takes := [], gens := [25, 41], keeps := [(2, [2, 3, 4, 6, 12, 13, 14]), (8, [2, 3, 6, 29, 30, 31])], own := false, drop := true }),
  (36, { takes := [], gens := [10], keeps := [], own := false, drop := true }),
  (21, { takes := [], gens := [], keeps := [], own := false, drop := true }),
  (39, { takes := [], gens := [], keeps := [], own := false, drop := true }),
  (38, { takes := [], gens := [16], keeps := [(2, [0, 1, 4, 7, 8])], own := false, drop := true }),
  (24, { takes := [], gens := [9], keeps := [], own := false, drop := true }),
  (23, { takes := [12], gens := [], keeps := [(3, [1, 2, 3, 4])], own := false, drop := true }),
  (25, { takes := [], gens := [], keeps := [(2, [0, 1, 4, 5, 6])], own := false, drop := true }),
  (27, { takes := [], gens := [], keeps := [], own := false, drop := true }),
  (28, { takes := [], gens := [], keeps := [(2, [0, 1, 4, 5, 6])], own := false, drop := true }),
  (29, { takes := [], gens := [], keeps := [], own := false, drop := true }),
  (30, { takes := [], gens := [], keeps := [(4, [2, 3, 4, 5])], own := false, drop := true }),
  (33, { takes := [], gens := [], keeps := [(3, [0, 3, 4])], own := false, drop := true }),
  (34, { takes := [], gens := [], keeps := [(3, [0, 3, 4])], own := false, drop := true }),
  (35, { takes := [], gens := [], keeps := [(3, [0, 3, 4])], own := false, drop := true }),
  (31, { takes := [], gens := [], keeps := [], own := false, drop := true }),
  (32, { takes := [], gens := [], keeps := [], own := false, drop := true }),
  (50, { takes := [], gens := [], keeps := [], own := false, drop := true }),
  (54, { takes := [], gens := [], keeps := [], own := false, drop := true }),
  (53, { takes := [], gens := [16], keeps := [(2, [0, 1, 4, 7, 8])], own := false, drop := true }),
  (44, { takes := [], gens := [42], keeps := [], own := false, drop := true }),
  (45, { takes := [], gens := [], keeps := [], own := false, drop := true }),
  (58, { takes := [], gens := [], keeps := [], own := false, drop := true }),
  (37, { takes := [], gens := [], keeps := [], own := false, drop := true }),
  (40, { takes := [], gens := [], keeps := [], own := false, drop := true }),
  (41, { takes := [], gens := [], keeps := [(2, [0, 2, 5, 6])], own := false, drop := true }),
  (51, { takes := [], gens := [], keeps := [], own := false, drop := true }),
  (52, { takes := [], gens := [], keeps := [(4, [1, 4, 5, 13, 14, 15])], own := false, drop := true }),
  (55, { takes := [], gens := [], keeps := [], own := false, drop := true }),
  (46, { takes := [], gens := [], keeps := [(4, [0, 2, 3])], own := false, drop := true }),
  (47, { takes := [], gens := [], keeps := [], own := false, drop := true }),
  (48, { takes := [], gens := [], keeps := [], own := false, drop := true }),
  (59, { takes := [], gens := [], keeps := [], own := false, drop := true }),
  (60, { takes := [], gens := [], keeps := [], own := false, drop := true }),
  (56, { takes := [], gens := [], keeps := [], own := false, drop := true }),
  (57, { takes := [], gens := [], keeps := [], own := false, drop := true }),
  (61, { takes := [], gens := [], keeps := [], own := false, drop := true }),
  (62, { takes := [], gens := [], keeps := [(2, [0, 1, 4, 7, 8])], own := false, drop := true })]
def MT (f : FuncId) : Hints := match Go.Ev.look MTL f with | some m => m | none => {}
def XT : Ext := fun _ => none
noncomputable def O : Orc := OL Try.prog MT XT
def seinelaw16_ArgsSaysE : Bool → PV := fun r => PV.bool r
theorem seinelaw16_ArgsSaysEj (a b : Bool) (h : seinelaw16_ArgsSaysE a = seinelaw16_ArgsSaysE b) : a = b := Ev.bool_inj a b h
noncomputable def seinelaw16_ArgsSays (params : List GParam) (l0 : List GMember) : Option Bool := tO O 3 [(.slice (List.map encParam params) [] false), (.slice (List.map encMember l0) [] false)] [] fun r => (seinelaw16_ArgsSaysE r, [])
theorem seinelaw16_ArgsSays_spec {params : List GParam} {l0 : List GMember} {r : Bool} (h : seinelaw16_ArgsSays params l0 = some r) : O 3 [(.slice (List.map encParam params) [] false), (.slice (List.map encMember l0) [] false)] [] = some (seinelaw16_ArgsSaysE r, []) := tO_spec (enc := fun r => (seinelaw16_ArgsSaysE r, [])) h
def args_Once_i1E : Bool → PV := fun r => PV.bool r
theorem args_Once_i1Ej (a b : Bool) (h : args_Once_i1E a = args_Once_i1E b) : a = b := Ev.bool_inj a b h
noncomputable def args_Once_i1 : Option Bool := tO O 12 [(.slice [] [] true)] [] fun r => (args_Once_i1E r, [])
theorem args_Once_i1_spec {r : Bool} (h : args_Once_i1 = some r) : O 12 [(.slice [] [] true)] [] = some (args_Once_i1E r, []) := tO_spec (enc := fun r => (args_Once_i1E r, [])) h
def seinelaw16_ArgsTurnedE : Bool → PV := fun r => PV.bool r
theorem seinelaw16_ArgsTurnedEj (a b : Bool) (h : seinelaw16_ArgsTurnedE a = seinelaw16_ArgsTurnedE b) : a = b := Ev.bool_inj a b h
noncomputable def seinelaw16_ArgsTurned (params : List GParam) (l0 : List GMember) (by0 : Int) : Option Bool := tO O 4 [(.slice (List.map encParam params) [] false), (.slice (List.map encMember l0) [] false), (.int .i64 by0)] [] fun r => (seinelaw16_ArgsTurnedE r, [])
theorem seinelaw16_ArgsTurned_spec {params : List GParam} {l0 : List GMember} {by0 : Int} {r : Bool} (h : seinelaw16_ArgsTurned params l0 by0 = some r) : O 4 [(.slice (List.map encParam params) [] false), (.slice (List.map encMember l0) [] false), (.int .i64 by0)] [] = some (seinelaw16_ArgsTurnedE r, []) := tO_spec (enc := fun r => (seinelaw16_ArgsTurnedE r, [])) h
def seinelaw16_small_i1E : Bool → PV := fun r => PV.bool r
theorem seinelaw16_small_i1Ej (a b : Bool) (h : seinelaw16_small_i1E a = seinelaw16_small_i1E b) : a = b := Ev.bool_inj a b h
noncomputable def seinelaw16_small_i1 (params : List GParam) : Option Bool := tO O 6 [(.slice (List.map encParam params) [] false), (.slice [] [] true)] [] fun r => (seinelaw16_small_i1E r, [])
theorem seinelaw16_small_i1_spec {params : List GParam} {r : Bool} (h : seinelaw16_small_i1 params = some r) : O 6 [(.slice (List.map encParam params) [] false), (.slice [] [] true)] [] = some (seinelaw16_small_i1E r, []) := tO_spec (enc := fun r => (seinelaw16_small_i1E r, [])) h
def seinelaw16_ArgsFullE : Bool → PV := fun r => PV.bool r
theorem seinelaw16_ArgsFullEj (a b : Bool) (h : seinelaw16_ArgsFullE a = seinelaw16_ArgsFullE b) : a = b := Ev.bool_inj a b h
noncomputable def seinelaw16_ArgsFull (params : List GParam) (at0 : Int) : Option Bool := tO O 5 [(.slice (List.map encParam params) [] false), (.int .i64 at0)] [] fun r => (seinelaw16_ArgsFullE r, [])
theorem seinelaw16_ArgsFull_spec {params : List GParam} {at0 : Int} {r : Bool} (h : seinelaw16_ArgsFull params at0 = some r) : O 5 [(.slice (List.map encParam params) [] false), (.int .i64 at0)] [] = some (seinelaw16_ArgsFullE r, []) := tO_spec (enc := fun r => (seinelaw16_ArgsFullE r, [])) h
def seinelaw16_smallE : Bool → PV := fun r => PV.bool r
theorem seinelaw16_smallEj (a b : Bool) (h : seinelaw16_smallE a = seinelaw16_smallE b) : a = b := Ev.bool_inj a b h
noncomputable def seinelaw16_small (params : List GParam) (l0 : List GMember) : Option Bool := tO O 6 [(.slice (List.map encParam params) [] false), (.slice (List.map encMember l0) [] false)] [] fun r => (seinelaw16_smallE r, [])
theorem seinelaw16_small_spec {params : List GParam} {l0 : List GMember} {r : Bool} (h : seinelaw16_small params l0 = some r) : O 6 [(.slice (List.map encParam params) [] false), (.slice (List.map encMember l0) [] false)] [] = some (seinelaw16_smallE r, []) := tO_spec (enc := fun r => (seinelaw16_smallE r, [])) h
def seinelaw16_awakeE : Bool → PV := fun r => PV.bool r
theorem seinelaw16_awakeEj (a b : Bool) (h : seinelaw16_awakeE a = seinelaw16_awakeE b) : a = b := Ev.bool_inj a b h
noncomputable def seinelaw16_awake : Option Bool := tO O 7 [] [] fun r => (seinelaw16_awakeE r, [])
theorem seinelaw16_awake_spec {r : Bool} (h : seinelaw16_awake = some r) : O 7 [] [] = some (seinelaw16_awakeE r, []) := tO_spec (enc := fun r => (seinelaw16_awakeE r, [])) h
def seinekeep_ParamsE : (List GParam) → PV := fun r => (encSl encParam) r
theorem seinekeep_ParamsEj (a b : List GParam) (h : seinekeep_ParamsE a = seinekeep_ParamsE b) : a = b := (Ev.encSl_inj inj_GParam) a b h
noncomputable def seinekeep_Params (l0 : List GParam) : Option (List GParam) := tO O 8 [(.slice (List.map encParam l0) [] false)] [] fun r => (seinekeep_ParamsE r, [])
theorem seinekeep_Params_spec {l0 : List GParam} {r : List GParam} (h : seinekeep_Params l0 = some r) : O 8 [(.slice (List.map encParam l0) [] false)] [] = some (seinekeep_ParamsE r, []) := tO_spec (enc := fun r => (seinekeep_ParamsE r, [])) h
def seinekeep_MembersE : (List GMember) → PV := fun r => (encSl encMember) r
theorem seinekeep_MembersEj (a b : List GMember) (h : seinekeep_MembersE a = seinekeep_MembersE b) : a = b := (Ev.encSl_inj inj_GMember) a b h
noncomputable def seinekeep_Members (l0 : List GMember) : Option (List GMember) := tO O 9 [(.slice (List.map encMember l0) [] false)] [] fun r => (seinekeep_MembersE r, [])
theorem seinekeep_Members_spec {l0 : List GMember} {r : List GMember} (h : seinekeep_Members l0 = some r) : O 9 [(.slice (List.map encMember l0) [] false)] [] = some (seinekeep_MembersE r, []) := tO_spec (enc := fun r => (seinekeep_MembersE r, [])) h
def args_KnownE : Bool → PV := fun r => PV.bool r
theorem args_KnownEj (a b : Bool) (h : args_KnownE a = args_KnownE b) : a = b := Ev.bool_inj a b h
noncomputable def args_Known (params : List GParam) (l0 : List GMember) : Option Bool := tO O 10 [(.slice (List.map encParam params) [] false), (.slice (List.map encMember l0) [] false)] [] fun r => (args_KnownE r, [])
theorem args_Known_spec {params : List GParam} {l0 : List GMember} {r : Bool} (h : args_Known params l0 = some r) : O 10 [(.slice (List.map encParam params) [] false), (.slice (List.map encMember l0) [] false)] [] = some (args_KnownE r, []) := tO_spec (enc := fun r => (args_KnownE r, [])) h
def seineref13_KnownE : Bool → PV := fun r => PV.bool r
theorem seineref13_KnownEj (a b : Bool) (h : seineref13_KnownE a = seineref13_KnownE b) : a = b := Ev.bool_inj a b h
noncomputable def seineref13_Known (l0 : List GParam) (m : List GMember) : Option Bool := tO O 11 [(.slice (List.map encParam l0) [] false), (.slice (List.map encMember m) [] false)] [] fun r => (seineref13_KnownE r, [])
theorem seineref13_Known_spec {l0 : List GParam} {m : List GMember} {r : Bool} (h : seineref13_Known l0 m = some r) : O 11 [(.slice (List.map encParam l0) [] false), (.slice (List.map encMember m) [] false)] [] = some (seineref13_KnownE r, []) := tO_spec (enc := fun r => (seineref13_KnownE r, [])) h
def args_OnceE : Bool → PV := fun r => PV.bool r
theorem args_OnceEj (a b : Bool) (h : args_OnceE a = args_OnceE b) : a = b := Ev.bool_inj a b h
noncomputable def args_Once (l0 : List GMember) : Option Bool := tO O 12 [(.slice (List.map encMember l0) [] false)] [] fun r => (args_OnceE r, [])
theorem args_Once_spec {l0 : List GMember} {r : Bool} (h : args_Once l0 = some r) : O 12 [(.slice (List.map encMember l0) [] false)] [] = some (args_OnceE r, []) := tO_spec (enc := fun r => (args_OnceE r, [])) h
def seineref13_OnceE : Bool → PV := fun r => PV.bool r
theorem seineref13_OnceEj (a b : Bool) (h : seineref13_OnceE a = seineref13_OnceE b) : a = b := Ev.bool_inj a b h
noncomputable def seineref13_Once (m : List GMember) : Option Bool := tO O 13 [(.slice (List.map encMember m) [] false)] [] fun r => (seineref13_OnceE r, [])
theorem seineref13_Once_spec {m : List GMember} {r : Bool} (h : seineref13_Once m = some r) : O 13 [(.slice (List.map encMember m) [] false)] [] = some (seineref13_OnceE r, []) := tO_spec (enc := fun r => (seineref13_OnceE r, [])) h
def args_NeededE : Bool → PV := fun r => PV.bool r
theorem args_NeededEj (a b : Bool) (h : args_NeededE a = args_NeededE b) : a = b := Ev.bool_inj a b h
noncomputable def args_Needed (params : List GParam) (l0 : List GMember) : Option Bool := tO O 14 [(.slice (List.map encParam params) [] false), (.slice (List.map encMember l0) [] false)] [] fun r => (args_NeededE r, [])
theorem args_Needed_spec {params : List GParam} {l0 : List GMember} {r : Bool} (h : args_Needed params l0 = some r) : O 14 [(.slice (List.map encParam params) [] false), (.slice (List.map encMember l0) [] false)] [] = some (args_NeededE r, []) := tO_spec (enc := fun r => (args_NeededE r, [])) h
def seineref13_NeededE : Bool → PV := fun r => PV.bool r
theorem seineref13_NeededEj (a b : Bool) (h : seineref13_NeededE a = seineref13_NeededE b) : a = b := Ev.bool_inj a b h
noncomputable def seineref13_Needed (l0 : List GParam) (m : List GMember) : Option Bool := tO O 15 [(.slice (List.map encParam l0) [] false), (.slice (List.map encMember m) [] false)] [] fun r => (seineref13_NeededE r, [])
theorem seineref13_Needed_spec {l0 : List GParam} {m : List GMember} {r : Bool} (h : seineref13_Needed l0 m = some r) : O 15 [(.slice (List.map encParam l0) [] false), (.slice (List.map encMember m) [] false)] [] = some (seineref13_NeededE r, []) := tO_spec (enc := fun r => (seineref13_NeededE r, [])) h
def seineref6_SameParamsE : Bool → PV := fun r => PV.bool r
theorem seineref6_SameParamsEj (a b : Bool) (h : seineref6_SameParamsE a = seineref6_SameParamsE b) : a = b := Ev.bool_inj a b h
noncomputable def seineref6_SameParams (a : List GParam) (b : List GParam) : Option Bool := tO O 16 [(.slice (List.map encParam a) [] false), (.slice (List.map encParam b) [] false)] [] fun r => (seineref6_SameParamsE r, [])
theorem seineref6_SameParams_spec {a : List GParam} {b : List GParam} {r : Bool} (h : seineref6_SameParams a b = some r) : O 16 [(.slice (List.map encParam a) [] false), (.slice (List.map encParam b) [] false)] [] = some (seineref6_SameParamsE r, []) := tO_spec (enc := fun r => (seineref6_SameParamsE r, [])) h
def seineref1_MembersE : Bool → PV := fun r => PV.bool r
theorem seineref1_MembersEj (a b : Bool) (h : seineref1_MembersE a = seineref1_MembersE b) : a = b := Ev.bool_inj a b h
noncomputable def seineref1_Members (a : List GMember) (b : List GMember) : Option Bool := tO O 17 [(.slice (List.map encMember a) [] false), (.slice (List.map encMember b) [] false)] [] fun r => (seineref1_MembersE r, [])
theorem seineref1_Members_spec {a : List GMember} {b : List GMember} {r : Bool} (h : seineref1_Members a b = some r) : O 17 [(.slice (List.map encMember a) [] false), (.slice (List.map encMember b) [] false)] [] = some (seineref1_MembersE r, []) := tO_spec (enc := fun r => (seineref1_MembersE r, [])) h
def value_GetE : (GValue × Bool) → PV := fun r => .tuple [encValue r.1, PV.bool r.2]
theorem value_GetEj (a b : GValue × Bool) (h : value_GetE a = value_GetE b) : a = b := by
  simp only [value_GetE, PV.tuple.injEq, List.cons.injEq, and_true] at h
  exact Prod.ext (inj_GValue _ _ h.1) (Ev.bool_inj _ _ h.2)
noncomputable def value_Get (name : Str) (l0 : List GMember) : Option (GValue × Bool) := tO O 26 [(.str name), (.slice (List.map encMember l0) [] false)] [] fun r => (value_GetE r, [])
theorem value_Get_spec {name : Str} {l0 : List GMember} {r : GValue × Bool} (h : value_Get name l0 = some r) : O 26 [(.str name), (.slice (List.map encMember l0) [] false)] [] = some (value_GetE r, []) := tO_spec (enc := fun r => (value_GetE r, [])) h
def seinelaw8_LightE : Bool → PV := fun r => PV.bool r
theorem seinelaw8_LightEj (a b : Bool) (h : seinelaw8_LightE a = seinelaw8_LightE b) : a = b := Ev.bool_inj a b h
noncomputable def seinelaw8_Light (s : GSchema) : Option Bool := tO O 19 [(.agg [(.slice (List.map encDef s.defs) [] false), (.str s.query), (.str s.mutation)])] [] fun r => (seinelaw8_LightE r, [])
theorem seinelaw8_Light_spec {s : GSchema} {r : Bool} (h : seinelaw8_Light s = some r) : O 19 [(.agg [(.slice (List.map encDef s.defs) [] false), (.str s.query), (.str s.mutation)])] [] = some (seinelaw8_LightE r, []) := tO_spec (enc := fun r => (seinelaw8_LightE r, [])) h
def seinekeep_SizeE : Int → PV := fun r => (PV.int .i64) r
theorem seinekeep_SizeEj (a b : Int) (h : seinekeep_SizeE a = seinekeep_SizeE b) : a = b := (Ev.int_inj _) a b h
noncomputable def seinekeep_Size (v0 : GValue) : Option Int := tO O 20 [(.agg [(.int .i64 v0.kind), (.int .i64 v0.n), (.str v0.s), (.slice (List.map encValue v0.l) [] false), (.slice (List.map encMember v0.m) [] false)])] [] fun r => (seinekeep_SizeE r, [])
theorem seinekeep_Size_spec {v0 : GValue} {r : Int} (h : seinekeep_Size v0 = some r) : O 20 [(.agg [(.int .i64 v0.kind), (.int .i64 v0.n), (.str v0.s), (.slice (List.map encValue v0.l) [] false), (.slice (List.map encMember v0.m) [] false)])] [] = some (seinekeep_SizeE r, []) := tO_spec (enc := fun r => (seinekeep_SizeE r, [])) h
def wrap_IsE : Bool → PV := fun r => PV.bool r
theorem wrap_IsEj (a b : Bool) (h : wrap_IsE a = wrap_IsE b) : a = b := Ev.bool_inj a b h
noncomputable def wrap_Is (t : GType) : Option Bool := tO O 18 [(.agg [(.str t.name), (.int .i64 t.lists), (.int .i64 t.musts)])] [] fun r => (wrap_IsE r, [])
theorem wrap_Is_spec {t : GType} {r : Bool} (h : wrap_Is t = some r) : O 18 [(.agg [(.str t.name), (.int .i64 t.lists), (.int .i64 t.musts)])] [] = some (wrap_IsE r, []) := tO_spec (enc := fun r => (wrap_IsE r, [])) h
def literal_Param_1E : Bool → PV := fun r => PV.bool r
def literal_Param_1U (p0 : GParam) (u0_4 : Str) (u0_40 : Str) (u0_400 : Int) (u0_4000 : Int) (u0_40000 : Bool) (u0_400000 : Int) (u0_4000000 : Int) (u0_40000000 : Str) (u0_3 : Str) : Bool → UP := fun r => [[(4, [(.str u0_4), (.str u0_40), (.int .i64 u0_400), (.int .i64 u0_4000), (.bool u0_40000), (.int .i64 u0_400000), (.int .i64 u0_4000000), (.str u0_40000000), (.slice [] [] true), (.slice [] [] true)]), (3, [(.str u0_3)])]]
theorem literal_Param_1Ej (a b : Bool) (h : literal_Param_1E a = literal_Param_1E b) : a = b := Ev.bool_inj a b h
noncomputable def literal_Param_1 (p0 : GParam) (u0_4 : Str) (u0_40 : Str) (u0_400 : Int) (u0_4000 : Int) (u0_40000 : Bool) (u0_400000 : Int) (u0_4000000 : Int) (u0_40000000 : Str) (u0_3 : Str) : Option Bool := tO O 39 [(.agg [(.str p0.name), (.str p0.t.name), (.int .i64 p0.t.lists), (.int .i64 p0.t.musts), (.bool p0.has), (.int .i64 p0.default.kind), (.int .i64 p0.default.n), (.str p0.default.s), (.slice (List.map encValue p0.default.l) [] false), (.slice (List.map encMember p0.default.m) [] false)]), (.ptr 1 3 0)] [[(4, [(.str u0_4), (.str u0_40), (.int .i64 u0_400), (.int .i64 u0_4000), (.bool u0_40000), (.int .i64 u0_400000), (.int .i64 u0_4000000), (.str u0_40000000), (.slice [] [] true), (.slice [] [] true)]), (3, [(.str u0_3)])]] fun r => (literal_Param_1E r, (literal_Param_1U p0 u0_4 u0_40 u0_400 u0_4000 u0_40000 u0_400000 u0_4000000 u0_40000000 u0_3 r))
theorem literal_Param_1_spec {p0 : GParam} {u0_4 : Str} {u0_40 : Str} {u0_400 : Int} {u0_4000 : Int} {u0_40000 : Bool} {u0_400000 : Int} {u0_4000000 : Int} {u0_40000000 : Str} {u0_3 : Str} {r : Bool} (h : literal_Param_1 p0 u0_4 u0_40 u0_400 u0_4000 u0_40000 u0_400000 u0_4000000 u0_40000000 u0_3 = some r) : O 39 [(.agg [(.str p0.name), (.str p0.t.name), (.int .i64 p0.t.lists), (.int .i64 p0.t.musts), (.bool p0.has), (.int .i64 p0.default.kind), (.int .i64 p0.default.n), (.str p0.default.s), (.slice (List.map encValue p0.default.l) [] false), (.slice (List.map encMember p0.default.m) [] false)]), (.ptr 1 3 0)] [[(4, [(.str u0_4), (.str u0_40), (.int .i64 u0_400), (.int .i64 u0_4000), (.bool u0_40000), (.int .i64 u0_400000), (.int .i64 u0_4000000), (.str u0_40000000), (.slice [] [] true), (.slice [] [] true)]), (3, [(.str u0_3)])]] = some (literal_Param_1E r, (literal_Param_1U p0 u0_4 u0_40 u0_400 u0_4000 u0_40000 u0_400000 u0_4000000 u0_40000000 u0_3 r)) := tO_spec (enc := fun r => (literal_Param_1E r, (literal_Param_1U p0 u0_4 u0_40 u0_400 u0_4000 u0_40000 u0_400000 u0_4000000 u0_40000000 u0_3 r))) h
def slices_IndexFunc_ParamE : Int → PV := fun r => (PV.int .i64) r
def slices_IndexFunc_ParamU (s : List GParam) (u0_4 : Str) (u0_40 : Str) (u0_400 : Int) (u0_4000 : Int) (u0_40000 : Bool) (u0_400000 : Int) (u0_4000000 : Int) (u0_40000000 : Str) (u0_3 : Str) : Int → UP := fun r => [[(4, [(.str u0_4), (.str u0_40), (.int .i64 u0_400), (.int .i64 u0_4000), (.bool u0_40000), (.int .i64 u0_400000), (.int .i64 u0_4000000), (.str u0_40000000), (.slice [] [] true), (.slice [] [] true)]), (3, [(.str u0_3)])]]
theorem slices_IndexFunc_ParamEj (a b : Int) (h : slices_IndexFunc_ParamE a = slices_IndexFunc_ParamE b) : a = b := (Ev.int_inj _) a b h
noncomputable def slices_IndexFunc_Param (s : List GParam) (u0_4 : Str) (u0_40 : Str) (u0_400 : Int) (u0_4000 : Int) (u0_40000 : Bool) (u0_400000 : Int) (u0_4000000 : Int) (u0_40000000 : Str) (u0_3 : Str) : Option Int := tO O 38 [(.slice (List.map encParam s) [] false), (.func (.func 39) [] [(.ptr 1 3 0)])] [[(4, [(.str u0_4), (.str u0_40), (.int .i64 u0_400), (.int .i64 u0_4000), (.bool u0_40000), (.int .i64 u0_400000), (.int .i64 u0_4000000), (.str u0_40000000), (.slice [] [] true), (.slice [] [] true)]), (3, [(.str u0_3)])]] fun r => (slices_IndexFunc_ParamE r, (slices_IndexFunc_ParamU s u0_4 u0_40 u0_400 u0_4000 u0_40000 u0_400000 u0_4000000 u0_40000000 u0_3 r))
theorem slices_IndexFunc_Param_spec {s : List GParam} {u0_4 : Str} {u0_40 : Str} {u0_400 : Int} {u0_4000 : Int} {u0_40000 : Bool} {u0_400000 : Int} {u0_4000000 : Int} {u0_40000000 : Str} {u0_3 : Str} {r : Int} (h : slices_IndexFunc_Param s u0_4 u0_40 u0_400 u0_4000 u0_40000 u0_400000 u0_4000000 u0_40000000 u0_3 = some r) : O 38 [(.slice (List.map encParam s) [] false), (.func (.func 39) [] [(.ptr 1 3 0)])] [[(4, [(.str u0_4), (.str u0_40), (.int .i64 u0_400), (.int .i64 u0_4000), (.bool u0_40000), (.int .i64 u0_400000), (.int .i64 u0_4000000), (.str u0_40000000), (.slice [] [] true), (.slice [] [] true)]), (3, [(.str u0_3)])]] = some (slices_IndexFunc_ParamE r, (slices_IndexFunc_ParamU s u0_4 u0_40 u0_400 u0_4000 u0_40000 u0_400000 u0_4000000 u0_40000000 u0_3 r)) := tO_spec (enc := fun r => (slices_IndexFunc_ParamE r, (slices_IndexFunc_ParamU s u0_4 u0_40 u0_400 u0_4000 u0_40000 u0_400000 u0_4000000 u0_40000000 u0_3 r))) h
def literal_ParamE : (GParam × Bool) → PV := fun r => .tuple [encParam r.1, PV.bool r.2]
theorem literal_ParamEj (a b : GParam × Bool) (h : literal_ParamE a = literal_ParamE b) : a = b := by
  simp only [literal_ParamE, PV.tuple.injEq, List.cons.injEq, and_true] at h
  exact Prod.ext (inj_GParam _ _ h.1) (Ev.bool_inj _ _ h.2)
noncomputable def literal_Param (l0 : List GParam) (name : Str) : Option (GParam × Bool) := tO O 24 [(.slice (List.map encParam l0) [] false), (.str name)] [] fun r => (literal_ParamE r, [])
theorem literal_Param_spec {l0 : List GParam} {name : Str} {r : GParam × Bool} (h : literal_Param l0 name = some r) : O 24 [(.slice (List.map encParam l0) [] false), (.str name)] [] = some (literal_ParamE r, []) := tO_spec (enc := fun r => (literal_ParamE r, [])) h
def seinekeep_ValueE : GValue → PV := fun r => encValue r
theorem seinekeep_ValueEj (a b : GValue) (h : seinekeep_ValueE a = seinekeep_ValueE b) : a = b := inj_GValue a b h
noncomputable def seinekeep_Value (v0 : GValue) : Option GValue := tO O 23 [(.agg [(.int .i64 v0.kind), (.int .i64 v0.n), (.str v0.s), (.slice (List.map encValue v0.l) [] false), (.slice (List.map encMember v0.m) [] false)])] [] fun r => (seinekeep_ValueE r, [])
theorem seinekeep_Value_spec {v0 : GValue} {r : GValue} (h : seinekeep_Value v0 = some r) : O 23 [(.agg [(.int .i64 v0.kind), (.int .i64 v0.n), (.str v0.s), (.slice (List.map encValue v0.l) [] false), (.slice (List.map encMember v0.m) [] false)])] [] = some (seinekeep_ValueE r, []) := tO_spec (enc := fun r => (seinekeep_ValueE r, [])) h
def seineref9_ParamE : (GParam × Bool) → PV := fun r => .tuple [encParam r.1, PV.bool r.2]
theorem seineref9_ParamEj (a b : GParam × Bool) (h : seineref9_ParamE a = seineref9_ParamE b) : a = b := by
  simp only [seineref9_ParamE, PV.tuple.injEq, List.cons.injEq, and_true] at h
  exact Prod.ext (inj_GParam _ _ h.1) (Ev.bool_inj _ _ h.2)
noncomputable def seineref9_Param (l0 : List GParam) (name : Str) : Option (GParam × Bool) := tO O 25 [(.slice (List.map encParam l0) [] false), (.str name)] [] fun r => (seineref9_ParamE r, [])
theorem seineref9_Param_spec {l0 : List GParam} {name : Str} {r : GParam × Bool} (h : seineref9_Param l0 name = some r) : O 25 [(.slice (List.map encParam l0) [] false), (.str name)] [] = some (seineref9_ParamE r, []) := tO_spec (enc := fun r => (seineref9_ParamE r, [])) h
def literal_RequiredE : Bool → PV := fun r => PV.bool r
theorem literal_RequiredEj (a b : Bool) (h : literal_RequiredE a = literal_RequiredE b) : a = b := Ev.bool_inj a b h
noncomputable def literal_Required (p0 : GParam) : Option Bool := tO O 27 [(.agg [(.str p0.name), (.str p0.t.name), (.int .i64 p0.t.lists), (.int .i64 p0.t.musts), (.bool p0.has), (.int .i64 p0.default.kind), (.int .i64 p0.default.n), (.str p0.default.s), (.slice (List.map encValue p0.default.l) [] false), (.slice (List.map encMember p0.default.m) [] false)])] [] fun r => (literal_RequiredE r, [])
theorem literal_Required_spec {p0 : GParam} {r : Bool} (h : literal_Required p0 = some r) : O 27 [(.agg [(.str p0.name), (.str p0.t.name), (.int .i64 p0.t.lists), (.int .i64 p0.t.musts), (.bool p0.has), (.int .i64 p0.default.kind), (.int .i64 p0.default.n), (.str p0.default.s), (.slice (List.map encValue p0.default.l) [] false), (.slice (List.map encMember p0.default.m) [] false)])] [] = some (literal_RequiredE r, []) := tO_spec (enc := fun r => (literal_RequiredE r, [])) h
def seineref1_GetE : (GValue × Bool) → PV := fun r => .tuple [encValue r.1, PV.bool r.2]
theorem seineref1_GetEj (a b : GValue × Bool) (h : seineref1_GetE a = seineref1_GetE b) : a = b := by
  simp only [seineref1_GetE, PV.tuple.injEq, List.cons.injEq, and_true] at h
  exact Prod.ext (inj_GValue _ _ h.1) (Ev.bool_inj _ _ h.2)
noncomputable def seineref1_Get (name : Str) (l0 : List GMember) : Option (GValue × Bool) := tO O 28 [(.str name), (.slice (List.map encMember l0) [] false)] [] fun r => (seineref1_GetE r, [])
theorem seineref1_Get_spec {name : Str} {l0 : List GMember} {r : GValue × Bool} (h : seineref1_Get name l0 = some r) : O 28 [(.str name), (.slice (List.map encMember l0) [] false)] [] = some (seineref1_GetE r, []) := tO_spec (enc := fun r => (seineref1_GetE r, [])) h
def seineref1_IsE : Bool → PV := fun r => PV.bool r
theorem seineref1_IsEj (a b : Bool) (h : seineref1_IsE a = seineref1_IsE b) : a = b := Ev.bool_inj a b h
noncomputable def seineref1_Is (t : GType) : Option Bool := tO O 29 [(.agg [(.str t.name), (.int .i64 t.lists), (.int .i64 t.musts)])] [] fun r => (seineref1_IsE r, [])
theorem seineref1_Is_spec {t : GType} {r : Bool} (h : seineref1_Is t = some r) : O 29 [(.agg [(.str t.name), (.int .i64 t.lists), (.int .i64 t.musts)])] [] = some (seineref1_IsE r, []) := tO_spec (enc := fun r => (seineref1_IsE r, [])) h
def seineref1_SameE : Bool → PV := fun r => PV.bool r
theorem seineref1_SameEj (a b : Bool) (h : seineref1_SameE a = seineref1_SameE b) : a = b := Ev.bool_inj a b h
noncomputable def seineref1_Same (a : GValue) (b : GValue) : Option Bool := tO O 30 [(.agg [(.int .i64 a.kind), (.int .i64 a.n), (.str a.s), (.slice (List.map encValue a.l) [] false), (.slice (List.map encMember a.m) [] false)]), (.agg [(.int .i64 b.kind), (.int .i64 b.n), (.str b.s), (.slice (List.map encValue b.l) [] false), (.slice (List.map encMember b.m) [] false)])] [] fun r => (seineref1_SameE r, [])
theorem seineref1_Same_spec {a : GValue} {b : GValue} {r : Bool} (h : seineref1_Same a b = some r) : O 30 [(.agg [(.int .i64 a.kind), (.int .i64 a.n), (.str a.s), (.slice (List.map encValue a.l) [] false), (.slice (List.map encMember a.m) [] false)]), (.agg [(.int .i64 b.kind), (.int .i64 b.n), (.str b.s), (.slice (List.map encValue b.l) [] false), (.slice (List.map encMember b.m) [] false)])] [] = some (seineref1_SameE r, []) := tO_spec (enc := fun r => (seineref1_SameE r, [])) h
def seinelaw8_lightTextsE : Int → PV := fun r => (PV.int .i64) r
theorem seinelaw8_lightTextsEj (a b : Int) (h : seinelaw8_lightTextsE a = seinelaw8_lightTextsE b) : a = b := (Ev.int_inj _) a b h
noncomputable def seinelaw8_lightTexts (l0 : List Str) : Option Int := tO O 33 [(.slice (List.map PV.str l0) [] false)] [] fun r => (seinelaw8_lightTextsE r, [])
theorem seinelaw8_lightTexts_spec {l0 : List Str} {r : Int} (h : seinelaw8_lightTexts l0 = some r) : O 33 [(.slice (List.map PV.str l0) [] false)] [] = some (seinelaw8_lightTextsE r, []) := tO_spec (enc := fun r => (seinelaw8_lightTextsE r, [])) h
def seinelaw8_lightParamsE : Int → PV := fun r => (PV.int .i64) r
theorem seinelaw8_lightParamsEj (a b : Int) (h : seinelaw8_lightParamsE a = seinelaw8_lightParamsE b) : a = b := (Ev.int_inj _) a b h
noncomputable def seinelaw8_lightParams (l0 : List GParam) : Option Int := tO O 34 [(.slice (List.map encParam l0) [] false)] [] fun r => (seinelaw8_lightParamsE r, [])
theorem seinelaw8_lightParams_spec {l0 : List GParam} {r : Int} (h : seinelaw8_lightParams l0 = some r) : O 34 [(.slice (List.map encParam l0) [] false)] [] = some (seinelaw8_lightParamsE r, []) := tO_spec (enc := fun r => (seinelaw8_lightParamsE r, [])) h
def seinelaw8_lightDirsE : Int → PV := fun r => (PV.int .i64) r
theorem seinelaw8_lightDirsEj (a b : Int) (h : seinelaw8_lightDirsE a = seinelaw8_lightDirsE b) : a = b := (Ev.int_inj _) a b h
noncomputable def seinelaw8_lightDirs (l0 : List GDir) : Option Int := tO O 35 [(.slice (List.map encDir l0) [] false)] [] fun r => (seinelaw8_lightDirsE r, [])
theorem seinelaw8_lightDirs_spec {l0 : List GDir} {r : Int} (h : seinelaw8_lightDirs l0 = some r) : O 35 [(.slice (List.map encDir l0) [] false)] [] = some (seinelaw8_lightDirsE r, []) := tO_spec (enc := fun r => (seinelaw8_lightDirsE r, [])) h
def wrap_RightE : Bool → PV := fun r => PV.bool r
theorem wrap_RightEj (a b : Bool) (h : wrap_RightE a = wrap_RightE b) : a = b := Ev.bool_inj a b h
noncomputable def wrap_Right (t : GType) : Option Bool := tO O 31 [(.agg [(.str t.name), (.int .i64 t.lists), (.int .i64 t.musts)])] [] fun r => (wrap_RightE r, [])
theorem wrap_Right_spec {t : GType} {r : Bool} (h : wrap_Right t = some r) : O 31 [(.agg [(.str t.name), (.int .i64 t.lists), (.int .i64 t.musts)])] [] = some (wrap_RightE r, []) := tO_spec (enc := fun r => (wrap_RightE r, [])) h
def wrap_bitE : Bool → PV := fun r => PV.bool r
theorem wrap_bitEj (a b : Bool) (h : wrap_bitE a = wrap_bitE b) : a = b := Ev.bool_inj a b h
noncomputable def wrap_bit (t : GType) (i : Int) : Option Bool := tO O 32 [(.agg [(.str t.name), (.int .i64 t.lists), (.int .i64 t.musts)]), (.int .i64 i)] [] fun r => (wrap_bitE r, [])
theorem wrap_bit_spec {t : GType} {i : Int} {r : Bool} (h : wrap_bit t i = some r) : O 32 [(.agg [(.str t.name), (.int .i64 t.lists), (.int .i64 t.musts)]), (.int .i64 i)] [] = some (wrap_bitE r, []) := tO_spec (enc := fun r => (wrap_bitE r, [])) h
def seineref1_RightTypeE : Bool → PV := fun r => PV.bool r
theorem seineref1_RightTypeEj (a b : Bool) (h : seineref1_RightTypeE a = seineref1_RightTypeE b) : a = b := Ev.bool_inj a b h
noncomputable def seineref1_RightType (t : GType) : Option Bool := tO O 40 [(.agg [(.str t.name), (.int .i64 t.lists), (.int .i64 t.musts)])] [] fun r => (seineref1_RightTypeE r, [])
theorem seineref1_RightType_spec {t : GType} {r : Bool} (h : seineref1_RightType t = some r) : O 40 [(.agg [(.str t.name), (.int .i64 t.lists), (.int .i64 t.musts)])] [] = some (seineref1_RightTypeE r, []) := tO_spec (enc := fun r => (seineref1_RightTypeE r, [])) h
def letters_NameE : Bool → PV := fun r => PV.bool r
theorem letters_NameEj (a b : Bool) (h : letters_NameE a = letters_NameE b) : a = b := Ev.bool_inj a b h
noncomputable def letters_Name (s : Str) : Option Bool := tO O 41 [(.str s)] [] fun r => (letters_NameE r, [])
theorem letters_Name_spec {s : Str} {r : Bool} (h : letters_Name s = some r) : O 41 [(.str s)] [] = some (letters_NameE r, []) := tO_spec (enc := fun r => (letters_NameE r, [])) h
def seineref1_NameE : Bool → PV := fun r => PV.bool r
theorem seineref1_NameEj (a b : Bool) (h : seineref1_NameE a = seineref1_NameE b) : a = b := Ev.bool_inj a b h
noncomputable def seineref1_Name (s : Str) : Option Bool := tO O 46 [(.str s)] [] fun r => (seineref1_NameE r, [])
theorem seineref1_Name_spec {s : Str} {r : Bool} (h : seineref1_Name s = some r) : O 46 [(.str s)] [] = some (seineref1_NameE r, []) := tO_spec (enc := fun r => (seineref1_NameE r, [])) h
def letters_LetterE : Bool → PV := fun r => PV.bool r
theorem letters_LetterEj (a b : Bool) (h : letters_LetterE a = letters_LetterE b) : a = b := Ev.bool_inj a b h
noncomputable def letters_Letter (c : Int) : Option Bool := tO O 47 [(.int .u8 c)] [] fun r => (letters_LetterE r, [])
theorem letters_Letter_spec {c : Int} {r : Bool} (h : letters_Letter c = some r) : O 47 [(.int .u8 c)] [] = some (letters_LetterE r, []) := tO_spec (enc := fun r => (letters_LetterE r, [])) h
def letters_DigitE : Bool → PV := fun r => PV.bool r
theorem letters_DigitEj (a b : Bool) (h : letters_DigitE a = letters_DigitE b) : a = b := Ev.bool_inj a b h
noncomputable def letters_Digit (c : Int) : Option Bool := tO O 48 [(.int .u8 c)] [] fun r => (letters_DigitE r, [])
theorem letters_Digit_spec {c : Int} {r : Bool} (h : letters_Digit c = some r) : O 48 [(.int .u8 c)] [] = some (letters_DigitE r, []) := tO_spec (enc := fun r => (letters_DigitE r, [])) h
def seineref1_startE : Bool → PV := fun r => PV.bool r
theorem seineref1_startEj (a b : Bool) (h : seineref1_startE a = seineref1_startE b) : a = b := Ev.bool_inj a b h
noncomputable def seineref1_start (c : Int) : Option Bool := tO O 56 [(.int .u8 c)] [] fun r => (seineref1_startE r, [])
theorem seineref1_start_spec {c : Int} {r : Bool} (h : seineref1_start c = some r) : O 56 [(.int .u8 c)] [] = some (seineref1_startE r, []) := tO_spec (enc := fun r => (seineref1_startE r, [])) h
def seineref1_digitE : Bool → PV := fun r => PV.bool r
theorem seineref1_digitEj (a b : Bool) (h : seineref1_digitE a = seineref1_digitE b) : a = b := Ev.bool_inj a b h
noncomputable def seineref1_digit (c : Int) : Option Bool := tO O 57 [(.int .u8 c)] [] fun r => (seineref1_digitE r, [])
theorem seineref1_digit_spec {c : Int} {r : Bool} (h : seineref1_digit c = some r) : O 57 [(.int .u8 c)] [] = some (seineref1_digitE r, []) := tO_spec (enc := fun r => (seineref1_digitE r, [])) h
end Go.Proofs.Yteiccdhdfcbokaa

/- Printed by frames.py: the types' readings. -/
set_option linter.unusedVariables false
set_option linter.unusedSimpArgs false
open Go Go.Ev Go.Ev.PV
namespace Go.Proofs.Yteiccdhdfcbokaa
def bkType (x : GType) : Nat := (bkStr x.name + (bk1 x.lists + (bk1 x.musts + (0)))) + 1
def gdType (x : GType) : Prop := gd1 x.name ∧ ((gdI .i64) x.lists ∧ ((gdI .i64) x.musts ∧ (True)))
theorem bkType_eq (x : GType) : bkType x = (bkStr x.name + (bk1 x.lists + (bk1 x.musts + (0)))) + 1 := rfl
theorem gdType_eq (x : GType) : gdType x = (gd1 x.name ∧ ((gdI .i64) x.lists ∧ ((gdI .i64) x.musts ∧ (True)))) := rfl
mutual
def bkValue : GValue → Nat
  | ⟨x0, x1, x2, x3, x4⟩ => (bk1 x0 + (bk1 x1 + (bkStr x2 + ((bkValues x3 + 1) + ((bkMembers x4 + 1) + (0)))))) + 1
def bkMember : GMember → Nat
  | ⟨x0, x1⟩ => (bkStr x0 + (bkValue x1 + (0))) + 1
def bkValues : List GValue → Nat
  | [] => 0
  | x :: l => bkValue x + bkValues l
def bkMembers : List GMember → Nat
  | [] => 0
  | x :: l => bkMember x + bkMembers l
end
mutual
def gdValue : GValue → Prop
  | ⟨x0, x1, x2, x3, x4⟩ => (gdI .i64) x0 ∧ ((gdI .i64) x1 ∧ (gd1 x2 ∧ (gdValues x3 ∧ (gdMembers x4 ∧ (True)))))
def gdMember : GMember → Prop
  | ⟨x0, x1⟩ => gd1 x0 ∧ (gdValue x1 ∧ (True))
def gdValues : List GValue → Prop
  | [] => True
  | x :: l => gdValue x ∧ gdValues l
def gdMembers : List GMember → Prop
  | [] => True
  | x :: l => gdMember x ∧ gdMembers l
end
theorem bkValues_eq : ∀ (l : List GValue), bkValues l = sumL bkValue l
  | [] => by simp only [bkValues, sumL]
  | x :: l => by simp only [bkValues, sumL, bkValues_eq l]
theorem gdValues_eq : ∀ (l : List GValue), gdValues l = gdSl gdValue l
  | [] => by simp [gdValues, gdSl]
  | x :: l => by simp [gdValues, gdSl, gdValues_eq l]
theorem bkMembers_eq : ∀ (l : List GMember), bkMembers l = sumL bkMember l
  | [] => by simp only [bkMembers, sumL]
  | x :: l => by simp only [bkMembers, sumL, bkMembers_eq l]
theorem gdMembers_eq : ∀ (l : List GMember), gdMembers l = gdSl gdMember l
  | [] => by simp [gdMembers, gdSl]
  | x :: l => by simp [gdMembers, gdSl, gdMembers_eq l]
theorem bkValue_eq (x : GValue) : bkValue x = (bk1 x.kind + (bk1 x.n + (bkStr x.s + ((bkSl bkValue) x.l + ((bkSl bkMember) x.m + (0)))))) + 1 := by
  cases x; simp only [bkValue, bkSl, bkValues_eq, bkMembers_eq]
theorem gdValue_eq (x : GValue) : gdValue x = ((gdI .i64) x.kind ∧ ((gdI .i64) x.n ∧ (gd1 x.s ∧ ((gdSl gdValue) x.l ∧ ((gdSl gdMember) x.m ∧ (True)))))) := by
  cases x; simp only [gdValue, gdValues_eq, gdMembers_eq]
theorem bkMember_eq (x : GMember) : bkMember x = (bkStr x.name + (bkValue x.v + (0))) + 1 := by
  cases x; simp only [bkMember, bkSl, bkValues_eq, bkMembers_eq]
theorem gdMember_eq (x : GMember) : gdMember x = (gd1 x.name ∧ (gdValue x.v ∧ (True))) := by
  cases x; simp only [gdMember, gdValues_eq, gdMembers_eq]
def bkParam (x : GParam) : Nat := (bkStr x.name + (bkType x.t + (bk1 x.has + (bkValue x.default + (0))))) + 1
def gdParam (x : GParam) : Prop := gd1 x.name ∧ (gdType x.t ∧ (gd1 x.has ∧ (gdValue x.default ∧ (True))))
theorem bkParam_eq (x : GParam) : bkParam x = (bkStr x.name + (bkType x.t + (bk1 x.has + (bkValue x.default + (0))))) + 1 := rfl
theorem gdParam_eq (x : GParam) : gdParam x = (gd1 x.name ∧ (gdType x.t ∧ (gd1 x.has ∧ (gdValue x.default ∧ (True))))) := rfl
def bkDir (x : GDir) : Nat := (bkStr x.name + ((bkSl bkMember) x.args + (0))) + 1
def gdDir (x : GDir) : Prop := gd1 x.name ∧ ((gdSl gdMember) x.args ∧ (True))
theorem bkDir_eq (x : GDir) : bkDir x = (bkStr x.name + ((bkSl bkMember) x.args + (0))) + 1 := rfl
theorem gdDir_eq (x : GDir) : gdDir x = (gd1 x.name ∧ ((gdSl gdMember) x.args ∧ (True))) := rfl
def bkFieldDef (x : GFieldDef) : Nat := (bkStr x.name + ((bkSl bkParam) x.params + (bkType x.t + ((bkSl bkDir) x.dirs + (0))))) + 1
def gdFieldDef (x : GFieldDef) : Prop := gd1 x.name ∧ ((gdSl gdParam) x.params ∧ (gdType x.t ∧ ((gdSl gdDir) x.dirs ∧ (True))))
theorem bkFieldDef_eq (x : GFieldDef) : bkFieldDef x = (bkStr x.name + ((bkSl bkParam) x.params + (bkType x.t + ((bkSl bkDir) x.dirs + (0))))) + 1 := rfl
theorem gdFieldDef_eq (x : GFieldDef) : gdFieldDef x = (gd1 x.name ∧ ((gdSl gdParam) x.params ∧ (gdType x.t ∧ ((gdSl gdDir) x.dirs ∧ (True))))) := rfl
def bkDef (x : GDef) : Nat := (bk1 x.kind + (bkStr x.name + ((bkSl bkStr) x.faces + ((bkSl bkFieldDef) x.fields + ((bkSl bkStr) x.parts + ((bkSl bkParam) x.params + (0))))))) + 1
def gdDef (x : GDef) : Prop := (gdI .i64) x.kind ∧ (gd1 x.name ∧ ((gdSl gd1) x.faces ∧ ((gdSl gdFieldDef) x.fields ∧ ((gdSl gd1) x.parts ∧ ((gdSl gdParam) x.params ∧ (True))))))
theorem bkDef_eq (x : GDef) : bkDef x = (bk1 x.kind + (bkStr x.name + ((bkSl bkStr) x.faces + ((bkSl bkFieldDef) x.fields + ((bkSl bkStr) x.parts + ((bkSl bkParam) x.params + (0))))))) + 1 := rfl
theorem gdDef_eq (x : GDef) : gdDef x = ((gdI .i64) x.kind ∧ (gd1 x.name ∧ ((gdSl gd1) x.faces ∧ ((gdSl gdFieldDef) x.fields ∧ ((gdSl gd1) x.parts ∧ ((gdSl gdParam) x.params ∧ (True))))))) := rfl
def bkSchema (x : GSchema) : Nat := ((bkSl bkDef) x.defs + (bkStr x.query + (bkStr x.mutation + (0)))) + 1
def gdSchema (x : GSchema) : Prop := (gdSl gdDef) x.defs ∧ (gd1 x.query ∧ (gd1 x.mutation ∧ (True)))
theorem bkSchema_eq (x : GSchema) : bkSchema x = ((bkSl bkDef) x.defs + (bkStr x.query + (bkStr x.mutation + (0)))) + 1 := rfl
theorem gdSchema_eq (x : GSchema) : gdSchema x = ((gdSl gdDef) x.defs ∧ (gd1 x.query ∧ (gd1 x.mutation ∧ (True)))) := rfl
mutual
def bkSel : GSel → Nat
  | ⟨x0, x1, x2, x3, x4, x5, x6⟩ => (bk1 x0 + (bkStr x1 + (bkStr x2 + ((bkSl bkMember) x3 + ((bkSl bkDir) x4 + (bkStr x5 + ((bkSels x6 + 1) + (0)))))))) + 1
def bkSels : List GSel → Nat
  | [] => 0
  | x :: l => bkSel x + bkSels l
end
mutual
def gdSel : GSel → Prop
  | ⟨x0, x1, x2, x3, x4, x5, x6⟩ => (gdI .i64) x0 ∧ (gd1 x1 ∧ (gd1 x2 ∧ ((gdSl gdMember) x3 ∧ ((gdSl gdDir) x4 ∧ (gd1 x5 ∧ (gdSels x6 ∧ (True)))))))
def gdSels : List GSel → Prop
  | [] => True
  | x :: l => gdSel x ∧ gdSels l
end
theorem bkSels_eq : ∀ (l : List GSel), bkSels l = sumL bkSel l
  | [] => by simp only [bkSels, sumL]
  | x :: l => by simp only [bkSels, sumL, bkSels_eq l]
theorem gdSels_eq : ∀ (l : List GSel), gdSels l = gdSl gdSel l
  | [] => by simp [gdSels, gdSl]
  | x :: l => by simp [gdSels, gdSl, gdSels_eq l]
theorem bkSel_eq (x : GSel) : bkSel x = (bk1 x.kind + (bkStr x.alias + (bkStr x.name + ((bkSl bkMember) x.args + ((bkSl bkDir) x.dirs + (bkStr x.on_ + ((bkSl bkSel) x.sels + (0)))))))) + 1 := by
  cases x; simp only [bkSel, bkSl, bkSels_eq]
theorem gdSel_eq (x : GSel) : gdSel x = ((gdI .i64) x.kind ∧ (gd1 x.alias ∧ (gd1 x.name ∧ ((gdSl gdMember) x.args ∧ ((gdSl gdDir) x.dirs ∧ (gd1 x.on_ ∧ ((gdSl gdSel) x.sels ∧ (True)))))))) := by
  cases x; simp only [gdSel, gdSels_eq]
def bkVarDef (x : GVarDef) : Nat := (bkStr x.name + (bkType x.t + (bk1 x.has + (bkValue x.default + (0))))) + 1
def gdVarDef (x : GVarDef) : Prop := gd1 x.name ∧ (gdType x.t ∧ (gd1 x.has ∧ (gdValue x.default ∧ (True))))
theorem bkVarDef_eq (x : GVarDef) : bkVarDef x = (bkStr x.name + (bkType x.t + (bk1 x.has + (bkValue x.default + (0))))) + 1 := rfl
theorem gdVarDef_eq (x : GVarDef) : gdVarDef x = (gd1 x.name ∧ (gdType x.t ∧ (gd1 x.has ∧ (gdValue x.default ∧ (True))))) := rfl
def bkOp (x : GOp) : Nat := (bk1 x.kind + (bkStr x.name + ((bkSl bkVarDef) x.vars + ((bkSl bkDir) x.dirs + ((bkSl bkSel) x.sels + (0)))))) + 1
def gdOp (x : GOp) : Prop := (gdI .i64) x.kind ∧ (gd1 x.name ∧ ((gdSl gdVarDef) x.vars ∧ ((gdSl gdDir) x.dirs ∧ ((gdSl gdSel) x.sels ∧ (True)))))
theorem bkOp_eq (x : GOp) : bkOp x = (bk1 x.kind + (bkStr x.name + ((bkSl bkVarDef) x.vars + ((bkSl bkDir) x.dirs + ((bkSl bkSel) x.sels + (0)))))) + 1 := rfl
theorem gdOp_eq (x : GOp) : gdOp x = ((gdI .i64) x.kind ∧ (gd1 x.name ∧ ((gdSl gdVarDef) x.vars ∧ ((gdSl gdDir) x.dirs ∧ ((gdSl gdSel) x.sels ∧ (True)))))) := rfl
def bkFrag (x : GFrag) : Nat := (bkStr x.name + (bkStr x.on_ + ((bkSl bkDir) x.dirs + ((bkSl bkSel) x.sels + (0))))) + 1
def gdFrag (x : GFrag) : Prop := gd1 x.name ∧ (gd1 x.on_ ∧ ((gdSl gdDir) x.dirs ∧ ((gdSl gdSel) x.sels ∧ (True))))
theorem bkFrag_eq (x : GFrag) : bkFrag x = (bkStr x.name + (bkStr x.on_ + ((bkSl bkDir) x.dirs + ((bkSl bkSel) x.sels + (0))))) + 1 := rfl
theorem gdFrag_eq (x : GFrag) : gdFrag x = (gd1 x.name ∧ (gd1 x.on_ ∧ ((gdSl gdDir) x.dirs ∧ ((gdSl gdSel) x.sels ∧ (True))))) := rfl
def bkDoc (x : GDoc) : Nat := ((bkSl bkOp) x.ops + ((bkSl bkFrag) x.frags + (0))) + 1
def gdDoc (x : GDoc) : Prop := (gdSl gdOp) x.ops ∧ ((gdSl gdFrag) x.frags ∧ (True))
theorem bkDoc_eq (x : GDoc) : bkDoc x = ((bkSl bkOp) x.ops + ((bkSl bkFrag) x.frags + (0))) + 1 := rfl
theorem gdDoc_eq (x : GDoc) : gdDoc x = ((gdSl gdOp) x.ops ∧ ((gdSl gdFrag) x.frags ∧ (True))) := rfl
def TS : Nat → TypeId
  | 0 => 36
  | 1 => 39
  | 2 => 43
  | 3 => 41
  | 4 => 56
  | 5 => 82
  | 6 => 50
  | 7 => 53
  | 8 => 60
  | 9 => 124
  | 10 => 63
  | 11 => 96
  | _ => 67
def BS : Nat → Ty
  | 0 => (.fcons .str (.fcons (.int .i64) (.fcons (.int .i64) .fnil)))
  | 1 => (.fcons (.int .i64) (.fcons (.int .i64) (.fcons .str (.fcons (.sl (.ext 1)) (.fcons (.sl (.ext 2)) .fnil)))))
  | 2 => (.fcons .str (.fcons (.ext 1) .fnil))
  | 3 => (.fcons .str (.fcons (.ext 0) (.fcons .bool (.fcons (.ext 1) .fnil))))
  | 4 => (.fcons .str (.fcons (.sl (.ext 2)) .fnil))
  | 5 => (.fcons .str (.fcons (.sl (.ext 3)) (.fcons (.ext 0) (.fcons (.sl (.ext 4)) .fnil))))
  | 6 => (.fcons (.int .i64) (.fcons .str (.fcons (.sl .str) (.fcons (.sl (.ext 5)) (.fcons (.sl .str) (.fcons (.sl (.ext 3)) .fnil))))))
  | 7 => (.fcons (.sl (.ext 6)) (.fcons .str (.fcons .str .fnil)))
  | 8 => (.fcons (.int .i64) (.fcons .str (.fcons .str (.fcons (.sl (.ext 2)) (.fcons (.sl (.ext 4)) (.fcons .str (.fcons (.sl (.ext 8)) .fnil)))))))
  | 9 => (.fcons .str (.fcons (.ext 0) (.fcons .bool (.fcons (.ext 1) .fnil))))
  | 10 => (.fcons (.int .i64) (.fcons .str (.fcons (.sl (.ext 9)) (.fcons (.sl (.ext 4)) (.fcons (.sl (.ext 8)) .fnil)))))
  | 11 => (.fcons .str (.fcons .str (.fcons (.sl (.ext 4)) (.fcons (.sl (.ext 8)) .fnil))))
  | _ => (.fcons (.sl (.ext 10)) (.fcons (.sl (.ext 11)) .fnil))
abbrev recType : RecTy := ⟨GType, encType, 3, bkType, gdType, fun x => wf_agg _ (encType_eq x) rfl rfl⟩
abbrev recValue : RecTy := ⟨GValue, encValue, 5, bkValue, gdValue, fun x => wf_agg _ (encValue_eq x) rfl rfl⟩
abbrev recMember : RecTy := ⟨GMember, encMember, 6, bkMember, gdMember, fun x => wf_agg _ (encMember_eq x) rfl rfl⟩
abbrev recParam : RecTy := ⟨GParam, encParam, 10, bkParam, gdParam, fun x => wf_agg _ (encParam_eq x) rfl rfl⟩
abbrev recDir : RecTy := ⟨GDir, encDir, 2, bkDir, gdDir, fun x => wf_agg _ (encDir_eq x) rfl rfl⟩
abbrev recFieldDef : RecTy := ⟨GFieldDef, encFieldDef, 6, bkFieldDef, gdFieldDef, fun x => wf_agg _ (encFieldDef_eq x) rfl rfl⟩
abbrev recDef : RecTy := ⟨GDef, encDef, 6, bkDef, gdDef, fun x => wf_agg _ (encDef_eq x) rfl rfl⟩
abbrev recSchema : RecTy := ⟨GSchema, encSchema, 3, bkSchema, gdSchema, fun x => wf_agg _ (encSchema_eq x) rfl rfl⟩
abbrev recSel : RecTy := ⟨GSel, encSel, 7, bkSel, gdSel, fun x => wf_agg _ (encSel_eq x) rfl rfl⟩
abbrev recVarDef : RecTy := ⟨GVarDef, encVarDef, 10, bkVarDef, gdVarDef, fun x => wf_agg _ (encVarDef_eq x) rfl rfl⟩
abbrev recOp : RecTy := ⟨GOp, encOp, 5, bkOp, gdOp, fun x => wf_agg _ (encOp_eq x) rfl rfl⟩
abbrev recFrag : RecTy := ⟨GFrag, encFrag, 4, bkFrag, gdFrag, fun x => wf_agg _ (encFrag_eq x) rfl rfl⟩
abbrev recDoc : RecTy := ⟨GDoc, encDoc, 2, bkDoc, gdDoc, fun x => wf_agg _ (encDoc_eq x) rfl rfl⟩
abbrev RS : REnv
  | 0 => recType
  | 1 => recValue
  | 2 => recMember
  | 3 => recParam
  | 4 => recDir
  | 5 => recFieldDef
  | 6 => recDef
  | 7 => recSchema
  | 8 => recSel
  | 9 => recVarDef
  | 10 => recOp
  | 11 => recFrag
  | _ => recDoc
theorem hty : ∀ i, ∃ F, Try.prog.underlying (TS i) = some (.struct F) ∧ Try.prog.cellsOf (TS i) = (BS i).size RS ∧ flds RS Try.prog (tyOk RS TS Try.prog 9) F.toList 0 (BS i) = true
  | 0 => ⟨_, Try.underlying36, by kernel_rfl, by kernel_rfl⟩
  | 1 => ⟨_, Try.underlying39, by kernel_rfl, by kernel_rfl⟩
  | 2 => ⟨_, Try.underlying43, by kernel_rfl, by kernel_rfl⟩
  | 3 => ⟨_, Try.underlying41, by kernel_rfl, by kernel_rfl⟩
  | 4 => ⟨_, Try.underlying56, by kernel_rfl, by kernel_rfl⟩
  | 5 => ⟨_, Try.underlying82, by kernel_rfl, by kernel_rfl⟩
  | 6 => ⟨_, Try.underlying50, by kernel_rfl, by kernel_rfl⟩
  | 7 => ⟨_, Try.underlying53, by kernel_rfl, by kernel_rfl⟩
  | 8 => ⟨_, Try.underlying60, by kernel_rfl, by kernel_rfl⟩
  | 9 => ⟨_, Try.underlying124, by kernel_rfl, by kernel_rfl⟩
  | 10 => ⟨_, Try.underlying63, by kernel_rfl, by kernel_rfl⟩
  | 11 => ⟨_, Try.underlying96, by kernel_rfl, by kernel_rfl⟩
  | _ + 12 => ⟨_, Try.underlying67, by kernel_rfl, by kernel_rfl⟩
theorem cvType (x0 : Str) (x1 : Int) (x2 : Int) : encType ⟨x0, x1, x2⟩ = (PV.agg ((PV.str x0).cells ++ (PV.agg (((PV.int .i64) x1).cells ++ (PV.agg (((PV.int .i64) x2).cells ++ (PV.agg []).cells)).cells)).cells)) := by
  simp only [tys, cells, List.cons_append, List.nil_append]
theorem cvValue (x0 : Int) (x1 : Int) (x2 : Str) (x3 : List GValue) (x4 : List GMember) : encValue ⟨x0, x1, x2, x3, x4⟩ = (PV.agg (((PV.int .i64) x0).cells ++ (PV.agg (((PV.int .i64) x1).cells ++ (PV.agg ((PV.str x2).cells ++ (PV.agg ((PV.slice (List.map encValue x3) [] false).cells ++ (PV.agg ((PV.slice (List.map encMember x4) [] false).cells ++ (PV.agg []).cells)).cells)).cells)).cells)).cells)) := by
  simp only [tys, cells, List.cons_append, List.nil_append]
theorem cvMember (x0 : Str) (x1 : GValue) : encMember ⟨x0, x1⟩ = (PV.agg ((PV.str x0).cells ++ (PV.agg ((encValue x1).cells ++ (PV.agg []).cells)).cells)) := by
  simp only [tys, cells, List.cons_append, List.nil_append]
theorem cvParam (x0 : Str) (x1 : GType) (x2 : Bool) (x3 : GValue) : encParam ⟨x0, x1, x2, x3⟩ = (PV.agg ((PV.str x0).cells ++ (PV.agg ((encType x1).cells ++ (PV.agg ((PV.bool x2).cells ++ (PV.agg ((encValue x3).cells ++ (PV.agg []).cells)).cells)).cells)).cells)) := by
  simp only [tys, cells, List.cons_append, List.nil_append]
theorem cvDir (x0 : Str) (x1 : List GMember) : encDir ⟨x0, x1⟩ = (PV.agg ((PV.str x0).cells ++ (PV.agg ((PV.slice (List.map encMember x1) [] false).cells ++ (PV.agg []).cells)).cells)) := by
  simp only [tys, cells, List.cons_append, List.nil_append]
theorem cvFieldDef (x0 : Str) (x1 : List GParam) (x2 : GType) (x3 : List GDir) : encFieldDef ⟨x0, x1, x2, x3⟩ = (PV.agg ((PV.str x0).cells ++ (PV.agg ((PV.slice (List.map encParam x1) [] false).cells ++ (PV.agg ((encType x2).cells ++ (PV.agg ((PV.slice (List.map encDir x3) [] false).cells ++ (PV.agg []).cells)).cells)).cells)).cells)) := by
  simp only [tys, cells, List.cons_append, List.nil_append]
theorem cvDef (x0 : Int) (x1 : Str) (x2 : List Str) (x3 : List GFieldDef) (x4 : List Str) (x5 : List GParam) : encDef ⟨x0, x1, x2, x3, x4, x5⟩ = (PV.agg (((PV.int .i64) x0).cells ++ (PV.agg ((PV.str x1).cells ++ (PV.agg ((PV.slice (List.map PV.str x2) [] false).cells ++ (PV.agg ((PV.slice (List.map encFieldDef x3) [] false).cells ++ (PV.agg ((PV.slice (List.map PV.str x4) [] false).cells ++ (PV.agg ((PV.slice (List.map encParam x5) [] false).cells ++ (PV.agg []).cells)).cells)).cells)).cells)).cells)).cells)) := by
  simp only [tys, cells, List.cons_append, List.nil_append]
theorem cvSchema (x0 : List GDef) (x1 : Str) (x2 : Str) : encSchema ⟨x0, x1, x2⟩ = (PV.agg ((PV.slice (List.map encDef x0) [] false).cells ++ (PV.agg ((PV.str x1).cells ++ (PV.agg ((PV.str x2).cells ++ (PV.agg []).cells)).cells)).cells)) := by
  simp only [tys, cells, List.cons_append, List.nil_append]
theorem cvSel (x0 : Int) (x1 : Str) (x2 : Str) (x3 : List GMember) (x4 : List GDir) (x5 : Str) (x6 : List GSel) : encSel ⟨x0, x1, x2, x3, x4, x5, x6⟩ = (PV.agg (((PV.int .i64) x0).cells ++ (PV.agg ((PV.str x1).cells ++ (PV.agg ((PV.str x2).cells ++ (PV.agg ((PV.slice (List.map encMember x3) [] false).cells ++ (PV.agg ((PV.slice (List.map encDir x4) [] false).cells ++ (PV.agg ((PV.str x5).cells ++ (PV.agg ((PV.slice (List.map encSel x6) [] false).cells ++ (PV.agg []).cells)).cells)).cells)).cells)).cells)).cells)).cells)) := by
  simp only [tys, cells, List.cons_append, List.nil_append]
theorem cvVarDef (x0 : Str) (x1 : GType) (x2 : Bool) (x3 : GValue) : encVarDef ⟨x0, x1, x2, x3⟩ = (PV.agg ((PV.str x0).cells ++ (PV.agg ((encType x1).cells ++ (PV.agg ((PV.bool x2).cells ++ (PV.agg ((encValue x3).cells ++ (PV.agg []).cells)).cells)).cells)).cells)) := by
  simp only [tys, cells, List.cons_append, List.nil_append]
theorem cvOp (x0 : Int) (x1 : Str) (x2 : List GVarDef) (x3 : List GDir) (x4 : List GSel) : encOp ⟨x0, x1, x2, x3, x4⟩ = (PV.agg (((PV.int .i64) x0).cells ++ (PV.agg ((PV.str x1).cells ++ (PV.agg ((PV.slice (List.map encVarDef x2) [] false).cells ++ (PV.agg ((PV.slice (List.map encDir x3) [] false).cells ++ (PV.agg ((PV.slice (List.map encSel x4) [] false).cells ++ (PV.agg []).cells)).cells)).cells)).cells)).cells)) := by
  simp only [tys, cells, List.cons_append, List.nil_append]
theorem cvFrag (x0 : Str) (x1 : Str) (x2 : List GDir) (x3 : List GSel) : encFrag ⟨x0, x1, x2, x3⟩ = (PV.agg ((PV.str x0).cells ++ (PV.agg ((PV.str x1).cells ++ (PV.agg ((PV.slice (List.map encDir x2) [] false).cells ++ (PV.agg ((PV.slice (List.map encSel x3) [] false).cells ++ (PV.agg []).cells)).cells)).cells)).cells)) := by
  simp only [tys, cells, List.cons_append, List.nil_append]
theorem cvDoc (x0 : List GOp) (x1 : List GFrag) : encDoc ⟨x0, x1⟩ = (PV.agg ((PV.slice (List.map encOp x0) [] false).cells ++ (PV.agg ((PV.slice (List.map encFrag x1) [] false).cells ++ (PV.agg []).cells)).cells)) := by
  simp only [tys, cells, List.cons_append, List.nil_append]
theorem hcv : ∀ i (x : (BS i).den RS), ∃ y : (RS i).D, (RS i).en y = enc RS (BS i) x ∧ (RS i).bk y ≤ bulk RS (BS i) x + 1 ∧ (good RS (BS i) x → (RS i).gd y)
  | 0, ⟨x0, x1, x2, _⟩ => ⟨(⟨x0, x1, x2⟩ : GType), (cvType x0 x1 x2).trans rfl, Nat.le_of_eq ((bkType_eq _).trans rfl), fun h => (gdType_eq _).mpr h⟩
  | 1, ⟨x0, x1, x2, x3, x4, _⟩ => ⟨(⟨x0, x1, x2, x3, x4⟩ : GValue), (cvValue x0 x1 x2 x3 x4).trans rfl, Nat.le_of_eq ((bkValue_eq _).trans rfl), fun h => (gdValue_eq _).mpr h⟩
  | 2, ⟨x0, x1, _⟩ => ⟨(⟨x0, x1⟩ : GMember), (cvMember x0 x1).trans rfl, Nat.le_of_eq ((bkMember_eq _).trans rfl), fun h => (gdMember_eq _).mpr h⟩
  | 3, ⟨x0, x1, x2, x3, _⟩ => ⟨(⟨x0, x1, x2, x3⟩ : GParam), (cvParam x0 x1 x2 x3).trans rfl, Nat.le_of_eq ((bkParam_eq _).trans rfl), fun h => (gdParam_eq _).mpr h⟩
  | 4, ⟨x0, x1, _⟩ => ⟨(⟨x0, x1⟩ : GDir), (cvDir x0 x1).trans rfl, Nat.le_of_eq ((bkDir_eq _).trans rfl), fun h => (gdDir_eq _).mpr h⟩
  | 5, ⟨x0, x1, x2, x3, _⟩ => ⟨(⟨x0, x1, x2, x3⟩ : GFieldDef), (cvFieldDef x0 x1 x2 x3).trans rfl, Nat.le_of_eq ((bkFieldDef_eq _).trans rfl), fun h => (gdFieldDef_eq _).mpr h⟩
  | 6, ⟨x0, x1, x2, x3, x4, x5, _⟩ => ⟨(⟨x0, x1, x2, x3, x4, x5⟩ : GDef), (cvDef x0 x1 x2 x3 x4 x5).trans rfl, Nat.le_of_eq ((bkDef_eq _).trans rfl), fun h => (gdDef_eq _).mpr h⟩
  | 7, ⟨x0, x1, x2, _⟩ => ⟨(⟨x0, x1, x2⟩ : GSchema), (cvSchema x0 x1 x2).trans rfl, Nat.le_of_eq ((bkSchema_eq _).trans rfl), fun h => (gdSchema_eq _).mpr h⟩
  | 8, ⟨x0, x1, x2, x3, x4, x5, x6, _⟩ => ⟨(⟨x0, x1, x2, x3, x4, x5, x6⟩ : GSel), (cvSel x0 x1 x2 x3 x4 x5 x6).trans rfl, Nat.le_of_eq ((bkSel_eq _).trans rfl), fun h => (gdSel_eq _).mpr h⟩
  | 9, ⟨x0, x1, x2, x3, _⟩ => ⟨(⟨x0, x1, x2, x3⟩ : GVarDef), (cvVarDef x0 x1 x2 x3).trans rfl, Nat.le_of_eq ((bkVarDef_eq _).trans rfl), fun h => (gdVarDef_eq _).mpr h⟩
  | 10, ⟨x0, x1, x2, x3, x4, _⟩ => ⟨(⟨x0, x1, x2, x3, x4⟩ : GOp), (cvOp x0 x1 x2 x3 x4).trans rfl, Nat.le_of_eq ((bkOp_eq _).trans rfl), fun h => (gdOp_eq _).mpr h⟩
  | 11, ⟨x0, x1, x2, x3, _⟩ => ⟨(⟨x0, x1, x2, x3⟩ : GFrag), (cvFrag x0 x1 x2 x3).trans rfl, Nat.le_of_eq ((bkFrag_eq _).trans rfl), fun h => (gdFrag_eq _).mpr h⟩
  | _ + 12, ⟨x0, x1, _⟩ => ⟨(⟨x0, x1⟩ : GDoc), (cvDoc x0 x1).trans rfl, Nat.le_of_eq ((bkDoc_eq _).trans rfl), fun h => (gdDoc_eq _).mpr h⟩
theorem rok {H : Type} (e : TypeId × Value → H) (W : World) {bl : DataW H → Nat} {bla : List (DataW H) → Nat} (hb : BlOk bl bla) : ROk RS TS e Try.prog W bl where
  op := open_ext hb 9 BS hty hcv
  ag := fun i => match i with
    | 0 => fun x => ⟨_, encType_eq x⟩
    | 1 => fun x => ⟨_, encValue_eq x⟩
    | 2 => fun x => ⟨_, encMember_eq x⟩
    | 3 => fun x => ⟨_, encParam_eq x⟩
    | 4 => fun x => ⟨_, encDir_eq x⟩
    | 5 => fun x => ⟨_, encFieldDef_eq x⟩
    | 6 => fun x => ⟨_, encDef_eq x⟩
    | 7 => fun x => ⟨_, encSchema_eq x⟩
    | 8 => fun x => ⟨_, encSel_eq x⟩
    | 9 => fun x => ⟨_, encVarDef_eq x⟩
    | 10 => fun x => ⟨_, encOp_eq x⟩
    | 11 => fun x => ⟨_, encFrag_eq x⟩
    | _ + 12 => fun x => ⟨_, encDoc_eq x⟩
  st := fun i => (hty i).imp fun F h => h.1
end Go.Proofs.Yteiccdhdfcbokaa
