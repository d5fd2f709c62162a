import Derived.Test.YtphmfillajagdaaEd
import Derived.Test.YtphmfillajagdaaProg
import Derived.KernelRfl
set_option linter.unusedVariables false
set_option linter.unusedSimpArgs false
/- Printed by symgen.py: what the functions of this seat compute, as typed functions, and why. -/
set_option linter.unusedVariables false
set_option linter.unusedSimpArgs false
open Go Go.Ev Go.Ev.PV
namespace Go.Proofs.Ytphmfillajagdaa
structure GType where
  name : Str
  lists : Int
  musts : Int

mutual
structure GValue where
  kind : Int
  n : Int
  s : Str
  l : List GValue
  m : List GMember

structure GMember where
  name : Str
  v : GValue

end
structure GVarDef where
  name : Str
  t : GType
  has : Bool
  default : GValue

structure GDir where
  name : Str
  args : List GMember

structure GSel where
  kind : Int
  alias : Str
  name : Str
  args : List GMember
  dirs : List GDir
  on_ : Str
  sels : List GSel

structure GOp where
  kind : Int
  name : Str
  vars : List GVarDef
  dirs : List GDir
  sels : List GSel

structure GFrag where
  name : Str
  on_ : Str
  dirs : List GDir
  sels : List GSel

structure GDoc where
  ops : List GOp
  frags : List GFrag

structure GParam where
  name : Str
  t : GType
  has : Bool
  default : GValue

structure GFieldDef where
  name : Str
  params : List GParam
  t : GType
  dirs : List GDir

structure GDef where
  kind : Int
  name : Str
  faces : List Str
  fields : List GFieldDef
  parts : List Str
  params : List GParam

structure GSchema where
  defs : List GDef
  query : Str
  mutation : Str

def shType : Sh := .agg [.str, (.int .i64), (.int .i64)]
def shValue : Sh := .agg [(.int .i64), (.int .i64), .str, (.sl false), (.sl false)]
def shMember : Sh := .agg [.str, (.int .i64), (.int .i64), .str, (.sl false), (.sl false)]
def shVarDef : Sh := .agg [.str, .str, (.int .i64), (.int .i64), .bool, (.int .i64), (.int .i64), .str, (.sl false), (.sl false)]
def shDir : Sh := .agg [.str, (.sl false)]
def shSel : Sh := .agg [(.int .i64), .str, .str, (.sl false), (.sl false), .str, (.sl false)]
def shOp : Sh := .agg [(.int .i64), .str, (.sl false), (.sl false), (.sl false)]
def shFrag : Sh := .agg [.str, .str, (.sl false), (.sl false)]
def shDoc : Sh := .agg [(.sl false), (.sl false)]
def shParam : Sh := .agg [.str, .str, (.int .i64), (.int .i64), .bool, (.int .i64), (.int .i64), .str, (.sl false), (.sl false)]
def shFieldDef : Sh := .agg [.str, (.sl false), .str, (.int .i64), (.int .i64), (.sl false)]
def shDef : Sh := .agg [(.int .i64), .str, (.sl false), (.sl false), (.sl false), (.sl false)]
def shSchema : Sh := .agg [(.sl false), .str, .str]
def encType (x : GType) : PV := .agg [.str x.name, .int .i64 x.lists, .int .i64 x.musts]
theorem encType_eq (x : GType) : encType x = .agg [.str x.name, .int .i64 x.lists, .int .i64 x.musts] := rfl
theorem chk_GType (x : GType) : chk shType (encType x) = true := by rw [encType_eq]; rfl
theorem inj_GType (a b : GType) (h : encType a = encType b) : a = b := by
  simp only [encType_eq, PV.agg.injEq, List.cons.injEq, PV.slice.injEq, PV.str.injEq, PV.int.injEq, PV.bool.injEq, true_and, and_true] at h
  obtain ⟨a0, a1, a2⟩ := a
  obtain ⟨b0, b1, b2⟩ := b
  dsimp only at h
  have e0 := h.1
  have e1 := h.2.1
  have e2 := h.2.2
  subst e0 e1 e2
  rfl
mutual
def encValue : GValue → PV
  | ⟨x0, x1, x2, x3, x4⟩ => .agg ([.int .i64 x0, .int .i64 x1, .str x2, .slice (encValues x3) [] false, .slice (encMembers x4) [] false])
def encMember : GMember → PV
  | ⟨x0, x1⟩ => .agg ([.str x0] ++ (encValue x1).cells)
def encValues : List GValue → List PV
  | [] => []
  | x :: l => encValue x :: encValues l
def encMembers : List GMember → List PV
  | [] => []
  | x :: l => encMember x :: encMembers l
end
theorem encValues_eq : ∀ (l : List GValue), encValues l = List.map encValue l
  | [] => by simp only [encValues, List.map]
  | x :: l => by simp only [encValues, List.map, encValues_eq l]
theorem encMembers_eq : ∀ (l : List GMember), encMembers l = List.map encMember l
  | [] => by simp only [encMembers, List.map]
  | x :: l => by simp only [encMembers, List.map, encMembers_eq l]
theorem encValue_eq (x : GValue) : encValue x = .agg [.int .i64 x.kind, .int .i64 x.n, .str x.s, .slice (List.map encValue x.l) [] false, .slice (List.map encMember x.m) [] false] := by
  cases x; simp only [encValue, cells, List.cons_append, List.nil_append, encValues_eq, encMembers_eq]
theorem encMember_eq (x : GMember) : encMember x = .agg [.str x.name, .int .i64 x.v.kind, .int .i64 x.v.n, .str x.v.s, .slice (List.map encValue x.v.l) [] false, .slice (List.map encMember x.v.m) [] false] := by
  cases x; simp only [encMember, cells, List.cons_append, List.nil_append, encValues_eq, encMembers_eq, encValue_eq]
theorem chk_GValue (x : GValue) : chk shValue (encValue x) = true := by rw [encValue_eq]; rfl
theorem chk_GMember (x : GMember) : chk shMember (encMember x) = true := by rw [encMember_eq]; rfl
mutual
theorem inj_GValue : ∀ (a b : GValue), encValue a = encValue b → a = b
  | ⟨a0, a1, a2, a3, a4⟩, ⟨b0, b1, b2, b3, b4⟩, h => by
    simp only [encValue, PV.agg.injEq, List.cons.injEq, List.append_eq, PV.slice.injEq, PV.str.injEq, PV.int.injEq, PV.bool.injEq, true_and, and_true] at h
    have e0 := h.1
    have e1 := h.2.1
    have e2 := h.2.2.1
    have e3 := inj_GValues _ _ h.2.2.2.1
    have e4 := inj_GMembers _ _ h.2.2.2.2
    subst e0 e1 e2 e3 e4
    rfl
theorem inj_GMember : ∀ (a b : GMember), encMember a = encMember b → a = b
  | ⟨a0, a1⟩, ⟨b0, b1⟩, h => by
    simp only [encMember, PV.agg.injEq, List.cons_append, List.nil_append, List.cons.injEq, PV.slice.injEq, PV.str.injEq, PV.int.injEq, PV.bool.injEq, true_and, and_true] at h
    have e0 := h.1
    have e1 := inj_GValue a1 b1 (by
      have h' := h.2
      cases a1; cases b1; simp only [encValue, cells] at h' ⊢; rw [h'])
    subst e0 e1
    rfl
theorem inj_GValues : ∀ (a b : List GValue), encValues a = encValues b → a = b
  | [], [], _ => rfl
  | [], _ :: _, h => by simp [encValues] at h
  | _ :: _, [], h => by simp [encValues] at h
  | x :: l, y :: m, h => by
    simp only [encValues, List.cons.injEq] at h
    rw [inj_GValue x y h.1, inj_GValues l m h.2]
theorem inj_GMembers : ∀ (a b : List GMember), encMembers a = encMembers b → a = b
  | [], [], _ => rfl
  | [], _ :: _, h => by simp [encMembers] at h
  | _ :: _, [], h => by simp [encMembers] at h
  | x :: l, y :: m, h => by
    simp only [encMembers, List.cons.injEq] at h
    rw [inj_GMember x y h.1, inj_GMembers l m h.2]
end
def encVarDef (x : GVarDef) : PV := .agg [.str x.name, .str x.t.name, .int .i64 x.t.lists, .int .i64 x.t.musts, .bool x.has, .int .i64 x.default.kind, .int .i64 x.default.n, .str x.default.s, .slice (List.map encValue x.default.l) [] false, .slice (List.map encMember x.default.m) [] false]
theorem encVarDef_eq (x : GVarDef) : encVarDef x = .agg [.str x.name, .str x.t.name, .int .i64 x.t.lists, .int .i64 x.t.musts, .bool x.has, .int .i64 x.default.kind, .int .i64 x.default.n, .str x.default.s, .slice (List.map encValue x.default.l) [] false, .slice (List.map encMember x.default.m) [] false] := rfl
theorem chk_GVarDef (x : GVarDef) : chk shVarDef (encVarDef x) = true := by rw [encVarDef_eq]; rfl
theorem inj_GVarDef (a b : GVarDef) (h : encVarDef a = encVarDef b) : a = b := by
  simp only [encVarDef_eq, PV.agg.injEq, List.cons.injEq, PV.slice.injEq, PV.str.injEq, PV.int.injEq, PV.bool.injEq, true_and, and_true] at h
  obtain ⟨a0, ⟨a1, a2, a3⟩, a4, ⟨a5, a6, a7, a8, a9⟩⟩ := a
  obtain ⟨b0, ⟨b1, b2, b3⟩, b4, ⟨b5, b6, b7, b8, b9⟩⟩ := b
  dsimp only at h
  have e0 := h.1
  have e1 := h.2.1
  have e2 := h.2.2.1
  have e3 := h.2.2.2.1
  have e4 := h.2.2.2.2.1
  have e5 := h.2.2.2.2.2.1
  have e6 := h.2.2.2.2.2.2.1
  have e7 := h.2.2.2.2.2.2.2.1
  have e8 := map_inj' inj_GValue h.2.2.2.2.2.2.2.2.1
  have e9 := map_inj' inj_GMember h.2.2.2.2.2.2.2.2.2
  subst e0 e1 e2 e3 e4 e5 e6 e7 e8 e9
  rfl
def encDir (x : GDir) : PV := .agg [.str x.name, .slice (List.map encMember x.args) [] false]
theorem encDir_eq (x : GDir) : encDir x = .agg [.str x.name, .slice (List.map encMember x.args) [] false] := rfl
theorem chk_GDir (x : GDir) : chk shDir (encDir x) = true := by rw [encDir_eq]; rfl
theorem inj_GDir (a b : GDir) (h : encDir a = encDir b) : a = b := by
  simp only [encDir_eq, PV.agg.injEq, List.cons.injEq, PV.slice.injEq, PV.str.injEq, PV.int.injEq, PV.bool.injEq, true_and, and_true] at h
  obtain ⟨a0, a1⟩ := a
  obtain ⟨b0, b1⟩ := b
  dsimp only at h
  have e0 := h.1
  have e1 := map_inj' inj_GMember h.2
  subst e0 e1
  rfl
mutual
def encSel : GSel → PV
  | ⟨x0, x1, x2, x3, x4, x5, x6⟩ => .agg ([.int .i64 x0, .str x1, .str x2, .slice (List.map encMember x3) [] false, .slice (List.map encDir x4) [] false, .str x5, .slice (encSels x6) [] false])
def encSels : List GSel → List PV
  | [] => []
  | x :: l => encSel x :: encSels l
end
theorem encSels_eq : ∀ (l : List GSel), encSels l = List.map encSel l
  | [] => by simp only [encSels, List.map]
  | x :: l => by simp only [encSels, List.map, encSels_eq l]
theorem encSel_eq (x : GSel) : encSel x = .agg [.int .i64 x.kind, .str x.alias, .str x.name, .slice (List.map encMember x.args) [] false, .slice (List.map encDir x.dirs) [] false, .str x.on_, .slice (List.map encSel x.sels) [] false] := by
  cases x; simp only [encSel, cells, List.cons_append, List.nil_append, encSels_eq]
theorem chk_GSel (x : GSel) : chk shSel (encSel x) = true := by rw [encSel_eq]; rfl
mutual
theorem inj_GSel : ∀ (a b : GSel), encSel a = encSel b → a = b
  | ⟨a0, a1, a2, a3, a4, a5, a6⟩, ⟨b0, b1, b2, b3, b4, b5, b6⟩, h => by
    simp only [encSel, PV.agg.injEq, List.cons.injEq, List.append_eq, PV.slice.injEq, PV.str.injEq, PV.int.injEq, PV.bool.injEq, true_and, and_true] at h
    have e0 := h.1
    have e1 := h.2.1
    have e2 := h.2.2.1
    have e3 := map_inj' inj_GMember h.2.2.2.1
    have e4 := map_inj' inj_GDir h.2.2.2.2.1
    have e5 := h.2.2.2.2.2.1
    have e6 := inj_GSels _ _ h.2.2.2.2.2.2
    subst e0 e1 e2 e3 e4 e5 e6
    rfl
theorem inj_GSels : ∀ (a b : List GSel), encSels a = encSels b → a = b
  | [], [], _ => rfl
  | [], _ :: _, h => by simp [encSels] at h
  | _ :: _, [], h => by simp [encSels] at h
  | x :: l, y :: m, h => by
    simp only [encSels, List.cons.injEq] at h
    rw [inj_GSel x y h.1, inj_GSels l m h.2]
end
def encOp (x : GOp) : PV := .agg [.int .i64 x.kind, .str x.name, .slice (List.map encVarDef x.vars) [] false, .slice (List.map encDir x.dirs) [] false, .slice (List.map encSel x.sels) [] false]
theorem encOp_eq (x : GOp) : encOp x = .agg [.int .i64 x.kind, .str x.name, .slice (List.map encVarDef x.vars) [] false, .slice (List.map encDir x.dirs) [] false, .slice (List.map encSel x.sels) [] false] := rfl
theorem chk_GOp (x : GOp) : chk shOp (encOp x) = true := by rw [encOp_eq]; rfl
theorem inj_GOp (a b : GOp) (h : encOp a = encOp b) : a = b := by
  simp only [encOp_eq, PV.agg.injEq, List.cons.injEq, PV.slice.injEq, PV.str.injEq, PV.int.injEq, PV.bool.injEq, true_and, and_true] at h
  obtain ⟨a0, a1, a2, a3, a4⟩ := a
  obtain ⟨b0, b1, b2, b3, b4⟩ := b
  dsimp only at h
  have e0 := h.1
  have e1 := h.2.1
  have e2 := map_inj' inj_GVarDef h.2.2.1
  have e3 := map_inj' inj_GDir h.2.2.2.1
  have e4 := map_inj' inj_GSel h.2.2.2.2
  subst e0 e1 e2 e3 e4
  rfl
def encFrag (x : GFrag) : PV := .agg [.str x.name, .str x.on_, .slice (List.map encDir x.dirs) [] false, .slice (List.map encSel x.sels) [] false]
theorem encFrag_eq (x : GFrag) : encFrag x = .agg [.str x.name, .str x.on_, .slice (List.map encDir x.dirs) [] false, .slice (List.map encSel x.sels) [] false] := rfl
theorem chk_GFrag (x : GFrag) : chk shFrag (encFrag x) = true := by rw [encFrag_eq]; rfl
theorem inj_GFrag (a b : GFrag) (h : encFrag a = encFrag b) : a = b := by
  simp only [encFrag_eq, PV.agg.injEq, List.cons.injEq, PV.slice.injEq, PV.str.injEq, PV.int.injEq, PV.bool.injEq, true_and, and_true] at h
  obtain ⟨a0, a1, a2, a3⟩ := a
  obtain ⟨b0, b1, b2, b3⟩ := b
  dsimp only at h
  have e0 := h.1
  have e1 := h.2.1
  have e2 := map_inj' inj_GDir h.2.2.1
  have e3 := map_inj' inj_GSel h.2.2.2
  subst e0 e1 e2 e3
  rfl
def encDoc (x : GDoc) : PV := .agg [.slice (List.map encOp x.ops) [] false, .slice (List.map encFrag x.frags) [] false]
theorem encDoc_eq (x : GDoc) : encDoc x = .agg [.slice (List.map encOp x.ops) [] false, .slice (List.map encFrag x.frags) [] false] := rfl
theorem chk_GDoc (x : GDoc) : chk shDoc (encDoc x) = true := by rw [encDoc_eq]; rfl
theorem inj_GDoc (a b : GDoc) (h : encDoc a = encDoc b) : a = b := by
  simp only [encDoc_eq, PV.agg.injEq, List.cons.injEq, PV.slice.injEq, PV.str.injEq, PV.int.injEq, PV.bool.injEq, true_and, and_true] at h
  obtain ⟨a0, a1⟩ := a
  obtain ⟨b0, b1⟩ := b
  dsimp only at h
  have e0 := map_inj' inj_GOp h.1
  have e1 := map_inj' inj_GFrag h.2
  subst e0 e1
  rfl
def encParam (x : GParam) : PV := .agg [.str x.name, .str x.t.name, .int .i64 x.t.lists, .int .i64 x.t.musts, .bool x.has, .int .i64 x.default.kind, .int .i64 x.default.n, .str x.default.s, .slice (List.map encValue x.default.l) [] false, .slice (List.map encMember x.default.m) [] false]
theorem encParam_eq (x : GParam) : encParam x = .agg [.str x.name, .str x.t.name, .int .i64 x.t.lists, .int .i64 x.t.musts, .bool x.has, .int .i64 x.default.kind, .int .i64 x.default.n, .str x.default.s, .slice (List.map encValue x.default.l) [] false, .slice (List.map encMember x.default.m) [] false] := rfl
theorem chk_GParam (x : GParam) : chk shParam (encParam x) = true := by rw [encParam_eq]; rfl
theorem inj_GParam (a b : GParam) (h : encParam a = encParam b) : a = b := by
  simp only [encParam_eq, PV.agg.injEq, List.cons.injEq, PV.slice.injEq, PV.str.injEq, PV.int.injEq, PV.bool.injEq, true_and, and_true] at h
  obtain ⟨a0, ⟨a1, a2, a3⟩, a4, ⟨a5, a6, a7, a8, a9⟩⟩ := a
  obtain ⟨b0, ⟨b1, b2, b3⟩, b4, ⟨b5, b6, b7, b8, b9⟩⟩ := b
  dsimp only at h
  have e0 := h.1
  have e1 := h.2.1
  have e2 := h.2.2.1
  have e3 := h.2.2.2.1
  have e4 := h.2.2.2.2.1
  have e5 := h.2.2.2.2.2.1
  have e6 := h.2.2.2.2.2.2.1
  have e7 := h.2.2.2.2.2.2.2.1
  have e8 := map_inj' inj_GValue h.2.2.2.2.2.2.2.2.1
  have e9 := map_inj' inj_GMember h.2.2.2.2.2.2.2.2.2
  subst e0 e1 e2 e3 e4 e5 e6 e7 e8 e9
  rfl
def encFieldDef (x : GFieldDef) : PV := .agg [.str x.name, .slice (List.map encParam x.params) [] false, .str x.t.name, .int .i64 x.t.lists, .int .i64 x.t.musts, .slice (List.map encDir x.dirs) [] false]
theorem encFieldDef_eq (x : GFieldDef) : encFieldDef x = .agg [.str x.name, .slice (List.map encParam x.params) [] false, .str x.t.name, .int .i64 x.t.lists, .int .i64 x.t.musts, .slice (List.map encDir x.dirs) [] false] := rfl
theorem chk_GFieldDef (x : GFieldDef) : chk shFieldDef (encFieldDef x) = true := by rw [encFieldDef_eq]; rfl
theorem inj_GFieldDef (a b : GFieldDef) (h : encFieldDef a = encFieldDef b) : a = b := by
  simp only [encFieldDef_eq, PV.agg.injEq, List.cons.injEq, PV.slice.injEq, PV.str.injEq, PV.int.injEq, PV.bool.injEq, true_and, and_true] at h
  obtain ⟨a0, a1, ⟨a2, a3, a4⟩, a5⟩ := a
  obtain ⟨b0, b1, ⟨b2, b3, b4⟩, b5⟩ := b
  dsimp only at h
  have e0 := h.1
  have e1 := map_inj' inj_GParam h.2.1
  have e2 := h.2.2.1
  have e3 := h.2.2.2.1
  have e4 := h.2.2.2.2.1
  have e5 := map_inj' inj_GDir h.2.2.2.2.2
  subst e0 e1 e2 e3 e4 e5
  rfl
def encDef (x : GDef) : PV := .agg [.int .i64 x.kind, .str x.name, .slice (List.map PV.str x.faces) [] false, .slice (List.map encFieldDef x.fields) [] false, .slice (List.map PV.str x.parts) [] false, .slice (List.map encParam x.params) [] false]
theorem encDef_eq (x : GDef) : encDef x = .agg [.int .i64 x.kind, .str x.name, .slice (List.map PV.str x.faces) [] false, .slice (List.map encFieldDef x.fields) [] false, .slice (List.map PV.str x.parts) [] false, .slice (List.map encParam x.params) [] false] := rfl
theorem chk_GDef (x : GDef) : chk shDef (encDef x) = true := by rw [encDef_eq]; rfl
theorem inj_GDef (a b : GDef) (h : encDef a = encDef b) : a = b := by
  simp only [encDef_eq, PV.agg.injEq, List.cons.injEq, PV.slice.injEq, PV.str.injEq, PV.int.injEq, PV.bool.injEq, true_and, and_true] at h
  obtain ⟨a0, a1, a2, a3, a4, a5⟩ := a
  obtain ⟨b0, b1, b2, b3, b4, b5⟩ := b
  dsimp only at h
  have e0 := h.1
  have e1 := h.2.1
  have e2 := map_inj' Ev.str_inj h.2.2.1
  have e3 := map_inj' inj_GFieldDef h.2.2.2.1
  have e4 := map_inj' Ev.str_inj h.2.2.2.2.1
  have e5 := map_inj' inj_GParam h.2.2.2.2.2
  subst e0 e1 e2 e3 e4 e5
  rfl
def encSchema (x : GSchema) : PV := .agg [.slice (List.map encDef x.defs) [] false, .str x.query, .str x.mutation]
theorem encSchema_eq (x : GSchema) : encSchema x = .agg [.slice (List.map encDef x.defs) [] false, .str x.query, .str x.mutation] := rfl
theorem chk_GSchema (x : GSchema) : chk shSchema (encSchema x) = true := by rw [encSchema_eq]; rfl
theorem inj_GSchema (a b : GSchema) (h : encSchema a = encSchema b) : a = b := by
  simp only [encSchema_eq, PV.agg.injEq, List.cons.injEq, PV.slice.injEq, PV.str.injEq, PV.int.injEq, PV.bool.injEq, true_and, and_true] at h
  obtain ⟨a0, a1, a2⟩ := a
  obtain ⟨b0, b1, b2⟩ := b
  dsimp only at h
  have e0 := map_inj' inj_GDef h.1
  have e1 := h.2.1
  have e2 := h.2.2
  subst e0 e1 e2
  rfl
theorem tys : (∀ x : GType, encType x = .agg [.str x.name, .int .i64 x.lists, .int .i64 x.musts]) ∧
    (∀ x : GValue, encValue x = .agg [.int .i64 x.kind, .int .i64 x.n, .str x.s, .slice (List.map encValue x.l) [] false, .slice (List.map encMember x.m) [] false]) ∧
    (∀ x : GMember, encMember x = .agg [.str x.name, .int .i64 x.v.kind, .int .i64 x.v.n, .str x.v.s, .slice (List.map encValue x.v.l) [] false, .slice (List.map encMember x.v.m) [] false]) ∧
    (∀ x : GVarDef, encVarDef x = .agg [.str x.name, .str x.t.name, .int .i64 x.t.lists, .int .i64 x.t.musts, .bool x.has, .int .i64 x.default.kind, .int .i64 x.default.n, .str x.default.s, .slice (List.map encValue x.default.l) [] false, .slice (List.map encMember x.default.m) [] false]) ∧
    (∀ x : GDir, encDir x = .agg [.str x.name, .slice (List.map encMember x.args) [] false]) ∧
    (∀ x : GSel, encSel x = .agg [.int .i64 x.kind, .str x.alias, .str x.name, .slice (List.map encMember x.args) [] false, .slice (List.map encDir x.dirs) [] false, .str x.on_, .slice (List.map encSel x.sels) [] false]) ∧
    (∀ x : GOp, encOp x = .agg [.int .i64 x.kind, .str x.name, .slice (List.map encVarDef x.vars) [] false, .slice (List.map encDir x.dirs) [] false, .slice (List.map encSel x.sels) [] false]) ∧
    (∀ x : GFrag, encFrag x = .agg [.str x.name, .str x.on_, .slice (List.map encDir x.dirs) [] false, .slice (List.map encSel x.sels) [] false]) ∧
    (∀ x : GDoc, encDoc x = .agg [.slice (List.map encOp x.ops) [] false, .slice (List.map encFrag x.frags) [] false]) ∧
    (∀ x : GParam, encParam x = .agg [.str x.name, .str x.t.name, .int .i64 x.t.lists, .int .i64 x.t.musts, .bool x.has, .int .i64 x.default.kind, .int .i64 x.default.n, .str x.default.s, .slice (List.map encValue x.default.l) [] false, .slice (List.map encMember x.default.m) [] false]) ∧
    (∀ x : GFieldDef, encFieldDef x = .agg [.str x.name, .slice (List.map encParam x.params) [] false, .str x.t.name, .int .i64 x.t.lists, .int .i64 x.t.musts, .slice (List.map encDir x.dirs) [] false]) ∧
    (∀ x : GDef, encDef x = .agg [.int .i64 x.kind, .str x.name, .slice (List.map PV.str x.faces) [] false, .slice (List.map encFieldDef x.fields) [] false, .slice (List.map PV.str x.parts) [] false, .slice (List.map encParam x.params) [] false]) ∧
    (∀ x : GSchema, encSchema x = .agg [.slice (List.map encDef x.defs) [] false, .str x.query, .str x.mutation]) := ⟨encType_eq, encValue_eq, encMember_eq, encVarDef_eq, encDir_eq, encSel_eq, encOp_eq, encFrag_eq, encDoc_eq, encParam_eq, encFieldDef_eq, encDef_eq, encSchema_eq⟩
theorem chks : (∀ x, chk shType (encType x) = true) ∧
    (∀ x, chk shValue (encValue x) = true) ∧
    (∀ x, chk shMember (encMember x) = true) ∧
    (∀ x, chk shVarDef (encVarDef x) = true) ∧
    (∀ x, chk shDir (encDir x) = true) ∧
    (∀ x, chk shSel (encSel x) = true) ∧
    (∀ x, chk shOp (encOp x) = true) ∧
    (∀ x, chk shFrag (encFrag x) = true) ∧
    (∀ x, chk shDoc (encDoc x) = true) ∧
    (∀ x, chk shParam (encParam x) = true) ∧
    (∀ x, chk shFieldDef (encFieldDef x) = true) ∧
    (∀ x, chk shDef (encDef x) = true) ∧
    (∀ x, chk shSchema (encSchema x) = true) := ⟨chk_GType, chk_GValue, chk_GMember, chk_GVarDef, chk_GDir, chk_GSel, chk_GOp, chk_GFrag, chk_GDoc, chk_GParam, chk_GFieldDef, chk_GDef, chk_GSchema⟩
end Go.Proofs.Ytphmfillajagdaa

/- Printed by symgen.py: the functions, seen from outside. -/
set_option linter.unusedVariables false
set_option linter.unusedSimpArgs false
open Go Go.Ev Go.Ev.PV
namespace Go.Proofs.Ytphmfillajagdaa
def MTL : List (Nat × Hints) := [(3, { takes := [], gens := [], keeps := [], own := false, drop := true }),
  (4, { takes := [], gens := [], keeps := [(6, [6, 7, 8, 9, 10]), (12, [7, 8, 9, 11, 12])], own := false, drop := true }),
  (5, { takes := [], gens := [], keeps := [(3, [1, 3, 4]), (7, [1, 3, 4, 5]), (11, [1, 3, 6])], own := false, drop := true }),
  (6, { takes := [], gens := [], keeps := [], own := false, drop := true }),
  (17, { takes := [15, 18, 26, 29, 31, 34, 36], gens := [], keeps := [(2, [0, 9, 10, 11]), (6, [0, 6, 9, 10, 11, 20, 21, 22])], own := true, drop := true, frl := [(2, [1048576])] }),
  (8, { takes := [11, 26, 29], gens := [], keeps := [(3, [2, 5, 14, 15, 16])], own := false, drop := true, frz := [(8, [5])] }),
  (9, { takes := [11, 32, 33], gens := [], keeps := [(4, [2, 5, 6, 7])], own := false, drop := true }),
  (7, { takes := [], gens := [], keeps := [(4, [0, 1, 4, 5])], own := false, drop := true }),
  (10, { takes := [], gens := [], keeps := [(2, [0, 1, 4, 5])], own := false, drop := true }),
  (11, { takes := [], gens := [], keeps := [(3, [0, 3, 4])], own := false, drop := true }),
  (12, { takes := [], gens := [], keeps := [(3, [0, 3, 4])], own := false, drop := true }),
  (13, { takes := [], gens := [], keeps := [(3, [1, 3, 4]), (7, [1, 3, 5])], own := false, drop := true }),
  (14, { takes := [], gens := [], keeps := [], own := false, drop := true }),
  (16, { takes := [], gens := [], keeps := [], own := false, drop := true }),
  (25, { takes := [], gens := [], keeps := [], own := false, drop := true }),
  (35, { takes := [], gens := [16], keeps := [(2, [0, 1, 4, 7, 8])], own := false, drop := true }),
  (24, { takes := [], gens := [7], keeps := [], own := false, drop := true }),
  (15, { takes := [], gens := [17], keeps := [], own := false, drop := true }),
  (27, { takes := [23, 25, 28], gens := [], keeps := [(2, [0, 9, 10, 11]), (5, [0, 9, 10, 11, 17, 18, 19])], own := true, drop := true, frl := [(2, [1048576])] }),
  (18, { takes := [30], gens := [], keeps := [(4, [5, 6, 13, 14, 15])], own := false, drop := true }),
  (31, { takes := [], gens := [], keeps := [], own := false, drop := true }),
  (30, { takes := [], gens := [16], keeps := [(2, [0, 1, 4, 7, 8])], own := false, drop := true }),
  (19, { takes := [], gens := [10], keeps := [], own := false, drop := true }),
  (20, { takes := [18, 19, 39, 40, 46, 47, 48], gens := [], keeps := [(2, [0, 1, 5]), (6, [0, 1, 5, 6])], own := true, drop := true }),
  (21, { takes := [31, 32, 59], gens := [], keeps := [(3, [2, 5, 6]), (10, [2, 5, 9, 10])], own := false, drop := true }),
  (22, { takes := [], gens := [], keeps := [(2, [1, 2, 4, 5, 6])], own := false, drop := true }),
  (23, { takes := [], gens := [], keeps := [(3, [3, 4]), (6, [3, 4, 5])], own := false, drop := true, vecs := [(7, 1)], frz := [(9, [3])] }),
  (38, { takes := [], gens := [], keeps := [], own := false, drop := true }),
  (50, { takes := [], gens := [16], keeps := [(2, [0, 1, 4, 7, 8])], own := false, drop := true }),
  (37, { takes := [], gens := [7], keeps := [], own := false, drop := true }),
  (41, { takes := [], gens := [], keeps := [], own := false, drop := true }),
  (52, { takes := [], gens := [16], keeps := [(2, [0, 1, 4, 7, 8])], own := false, drop := true }),
  (40, { takes := [], gens := [7], keeps := [], own := false, drop := true }),
  (43, { takes := [], gens := [], keeps := [], own := false, drop := true }),
  (26, { takes := [], gens := [20, 29, 38], keeps := [], own := false, drop := true }),
  (44, { takes := [4], gens := [], keeps := [], own := false, drop := true }),
  (45, { takes := [25], gens := [], keeps := [(3, [0, 1, 4, 5, 8, 9, 10])], own := true, drop := true }),
  (28, { takes := [10, 28, 31], gens := [], keeps := [(4, [2, 5, 6])], own := false, drop := true }),
  (29, { takes := [], gens := [], keeps := [], own := false, drop := true }),
  (32, { takes := [33, 40], gens := [], keeps := [(2, [0, 1, 5]), (6, [0, 1, 5, 6, 7])], own := true, drop := true }),
  (33, { takes := [4], gens := [], keeps := [], own := true, drop := true }),
  (34, { takes := [28, 41, 42, 43], gens := [], keeps := [(2, [0, 1, 5])], own := true, drop := true }),
  (49, { takes := [], gens := [], keeps := [], own := false, drop := true }),
  (36, { takes := [], gens := [18], keeps := [(2, [1, 2, 6, 7, 8])], own := false, drop := true }),
  (39, { takes := [], gens := [], keeps := [], own := false, drop := true }),
  (53, { takes := [], gens := [], keeps := [], own := false, drop := true }),
  (42, { takes := [], gens := [10], keeps := [], own := false, drop := true }),
  (54, { takes := [18, 32, 34, 45, 48, 50], gens := [], keeps := [(7, [0, 26, 27, 28]), (13, [0, 39, 40, 41])], own := true, drop := true }),
  (46, { takes := [23, 28, 31, 33], gens := [], keeps := [(2, [0, 7, 8, 9])], own := true, drop := true }),
  (47, { takes := [], gens := [], keeps := [(2, [0, 1, 4, 7, 8])], own := false, drop := true }),
  (48, { takes := [4], gens := [], keeps := [], own := false, drop := true }),
  (51, { takes := [], gens := [], keeps := [], own := false, drop := true }),
  (56, { takes := [17, 39, 40, 59, 60, 61], gens := [], keeps := [(4, [1, 2, 5]), (8, [1, 2, 6])], own := true, drop := true }),
  (57, { takes := [], gens := [], keeps := [(4, [1, 4, 5, 13, 14, 15])], own := false, drop := true }),
  (58, { takes := [], gens := [], keeps := [], own := false, drop := true }),
  (61, { takes := [], gens := [], keeps := [], own := false, drop := true }),
  (62, { takes := [], gens := [], keeps := [(2, [0, 1, 4, 7, 8])], own := false, drop := true })]
def MT (f : FuncId) : Hints := match Go.Ev.look MTL f with | some m => m | none => {}
def XT : Ext := fun f => Go.Ev.look [(45, xInsert)] f
noncomputable def O : Orc := OL Try.prog MT XT
def seinelaw17_VarsUsesE : Bool → PV := fun r => PV.bool r
theorem seinelaw17_VarsUsesEj (a b : Bool) (h : seinelaw17_VarsUsesE a = seinelaw17_VarsUsesE b) : a = b := Ev.bool_inj a b h
noncomputable def seinelaw17_VarsUses (d : GDoc) (l0 : List GSel) : Option Bool := tO O 3 [(.agg [(.slice (List.map encOp d.ops) [] false), (.slice (List.map encFrag d.frags) [] false)]), (.slice (List.map encSel l0) [] false)] [] fun r => (seinelaw17_VarsUsesE r, [])
theorem seinelaw17_VarsUses_spec {d : GDoc} {l0 : List GSel} {r : Bool} (h : seinelaw17_VarsUses d l0 = some r) : O 3 [(.agg [(.slice (List.map encOp d.ops) [] false), (.slice (List.map encFrag d.frags) [] false)]), (.slice (List.map encSel l0) [] false)] [] = some (seinelaw17_VarsUsesE r, []) := tO_spec (enc := fun r => (seinelaw17_VarsUsesE r, [])) h
def seinelaw17_VarsJoinsE : Bool → PV := fun r => PV.bool r
theorem seinelaw17_VarsJoinsEj (a b : Bool) (h : seinelaw17_VarsJoinsE a = seinelaw17_VarsJoinsE b) : a = b := Ev.bool_inj a b h
noncomputable def seinelaw17_VarsJoins (d : GDoc) (l0 : List GSel) (m : List GSel) : Option Bool := tO O 4 [(.agg [(.slice (List.map encOp d.ops) [] false), (.slice (List.map encFrag d.frags) [] false)]), (.slice (List.map encSel l0) [] false), (.slice (List.map encSel m) [] false)] [] fun r => (seinelaw17_VarsJoinsE r, [])
theorem seinelaw17_VarsJoins_spec {d : GDoc} {l0 : List GSel} {m : List GSel} {r : Bool} (h : seinelaw17_VarsJoins d l0 m = some r) : O 4 [(.agg [(.slice (List.map encOp d.ops) [] false), (.slice (List.map encFrag d.frags) [] false)]), (.slice (List.map encSel l0) [] false), (.slice (List.map encSel m) [] false)] [] = some (seinelaw17_VarsJoinsE r, []) := tO_spec (enc := fun r => (seinelaw17_VarsJoinsE r, [])) h
def seinelaw7_LightE : Bool → PV := fun r => PV.bool r
theorem seinelaw7_LightEj (a b : Bool) (h : seinelaw7_LightE a = seinelaw7_LightE b) : a = b := Ev.bool_inj a b h
noncomputable def seinelaw7_Light (d : GDoc) : Option Bool := tO O 5 [(.agg [(.slice (List.map encOp d.ops) [] false), (.slice (List.map encFrag d.frags) [] false)])] [] fun r => (seinelaw7_LightE r, [])
theorem seinelaw7_Light_spec {d : GDoc} {r : Bool} (h : seinelaw7_Light d = some r) : O 5 [(.agg [(.slice (List.map encOp d.ops) [] false), (.slice (List.map encFrag d.frags) [] false)])] [] = some (seinelaw7_LightE r, []) := tO_spec (enc := fun r => (seinelaw7_LightE r, [])) h
def seinelaw17_awakeE : Bool → PV := fun r => PV.bool r
theorem seinelaw17_awakeEj (a b : Bool) (h : seinelaw17_awakeE a = seinelaw17_awakeE b) : a = b := Ev.bool_inj a b h
noncomputable def seinelaw17_awake : Option Bool := tO O 6 [] [] fun r => (seinelaw17_awakeE r, [])
theorem seinelaw17_awake_spec {r : Bool} (h : seinelaw17_awake = some r) : O 6 [] [] = some (seinelaw17_awakeE r, []) := tO_spec (enc := fun r => (seinelaw17_awakeE r, [])) h
def vars_writtenE : (List Str) → PV := fun r => .vec 1 (List.map PV.str r)
theorem vars_writtenEj (a b : List Str) (h : vars_writtenE a = vars_writtenE b) : a = b := Ev.vec_inj Ev.str_inj a b h
noncomputable def vars_written (sels : List GSel) : Option (List Str) := tO O 17 [(.slice [] [] true), (.slice (List.map encSel sels) [] false)] [] fun r => (vars_writtenE r, [])
theorem vars_written_spec {sels : List GSel} {r : List Str} (h : vars_written sels = some r) : O 17 [(.slice [] [] true), (.slice (List.map encSel sels) [] false)] [] = some (vars_writtenE r, []) := tO_spec (enc := fun r => (vars_writtenE r, [])) h
def vars_UsesE : (List Str) → PV := fun r => (encSl PV.str) r
theorem vars_UsesEj (a b : List Str) (h : vars_UsesE a = vars_UsesE b) : a = b := (Ev.encSl_inj Ev.str_inj) a b h
noncomputable def vars_Uses (d : GDoc) (l0 : List GSel) : Option (List Str) := tO O 8 [(.agg [(.slice (List.map encOp d.ops) [] false), (.slice (List.map encFrag d.frags) [] false)]), (.slice (List.map encSel l0) [] false)] [] fun r => (vars_UsesE r, [])
theorem vars_Uses_spec {d : GDoc} {l0 : List GSel} {r : List Str} (h : vars_Uses d l0 = some r) : O 8 [(.agg [(.slice (List.map encOp d.ops) [] false), (.slice (List.map encFrag d.frags) [] false)]), (.slice (List.map encSel l0) [] false)] [] = some (vars_UsesE r, []) := tO_spec (enc := fun r => (vars_UsesE r, [])) h
def seineref13_UsesE : (List Str) → PV := fun r => (encSl PV.str) r
theorem seineref13_UsesEj (a b : List Str) (h : seineref13_UsesE a = seineref13_UsesE b) : a = b := (Ev.encSl_inj Ev.str_inj) a b h
noncomputable def seineref13_Uses (d : GDoc) (l0 : List GSel) : Option (List Str) := tO O 9 [(.agg [(.slice (List.map encOp d.ops) [] false), (.slice (List.map encFrag d.frags) [] false)]), (.slice (List.map encSel l0) [] false)] [] fun r => (seineref13_UsesE r, [])
theorem seineref13_Uses_spec {d : GDoc} {l0 : List GSel} {r : List Str} (h : seineref13_Uses d l0 = some r) : O 9 [(.agg [(.slice (List.map encOp d.ops) [] false), (.slice (List.map encFrag d.frags) [] false)]), (.slice (List.map encSel l0) [] false)] [] = some (seineref13_UsesE r, []) := tO_spec (enc := fun r => (seineref13_UsesE r, [])) h
def seinekeep_SameTextsE : Bool → PV := fun r => PV.bool r
theorem seinekeep_SameTextsEj (a b : Bool) (h : seinekeep_SameTextsE a = seinekeep_SameTextsE b) : a = b := Ev.bool_inj a b h
noncomputable def seinekeep_SameTexts (a : List Str) (b : List Str) : Option Bool := tO O 7 [(.slice (List.map PV.str a) [] false), (.slice (List.map PV.str b) [] false)] [] fun r => (seinekeep_SameTextsE r, [])
theorem seinekeep_SameTexts_spec {a : List Str} {b : List Str} {r : Bool} (h : seinekeep_SameTexts a b = some r) : O 7 [(.slice (List.map PV.str a) [] false), (.slice (List.map PV.str b) [] false)] [] = some (seinekeep_SameTextsE r, []) := tO_spec (enc := fun r => (seinekeep_SameTextsE r, [])) h
def seineref1_HasE : Bool → PV := fun r => PV.bool r
theorem seineref1_HasEj (a b : Bool) (h : seineref1_HasE a = seineref1_HasE b) : a = b := Ev.bool_inj a b h
noncomputable def seineref1_Has (l0 : List Str) (s : Str) : Option Bool := tO O 10 [(.slice (List.map PV.str l0) [] false), (.str s)] [] fun r => (seineref1_HasE r, [])
theorem seineref1_Has_spec {l0 : List Str} {s : Str} {r : Bool} (h : seineref1_Has l0 s = some r) : O 10 [(.slice (List.map PV.str l0) [] false), (.str s)] [] = some (seineref1_HasE r, []) := tO_spec (enc := fun r => (seineref1_HasE r, [])) h
def seinelaw7_lightDirsE : Int → PV := fun r => (PV.int .i64) r
theorem seinelaw7_lightDirsEj (a b : Int) (h : seinelaw7_lightDirsE a = seinelaw7_lightDirsE b) : a = b := (Ev.int_inj _) a b h
noncomputable def seinelaw7_lightDirs (l0 : List GDir) : Option Int := tO O 11 [(.slice (List.map encDir l0) [] false)] [] fun r => (seinelaw7_lightDirsE r, [])
theorem seinelaw7_lightDirs_spec {l0 : List GDir} {r : Int} (h : seinelaw7_lightDirs l0 = some r) : O 11 [(.slice (List.map encDir l0) [] false)] [] = some (seinelaw7_lightDirsE r, []) := tO_spec (enc := fun r => (seinelaw7_lightDirsE r, [])) h
def seinelaw7_lightSelsE : Int → PV := fun r => (PV.int .i64) r
theorem seinelaw7_lightSelsEj (a b : Int) (h : seinelaw7_lightSelsE a = seinelaw7_lightSelsE b) : a = b := (Ev.int_inj _) a b h
noncomputable def seinelaw7_lightSels (l0 : List GSel) : Option Int := tO O 12 [(.slice (List.map encSel l0) [] false)] [] fun r => (seinelaw7_lightSelsE r, [])
theorem seinelaw7_lightSels_spec {l0 : List GSel} {r : Int} (h : seinelaw7_lightSels l0 = some r) : O 12 [(.slice (List.map encSel l0) [] false)] [] = some (seinelaw7_lightSelsE r, []) := tO_spec (enc := fun r => (seinelaw7_lightSelsE r, [])) h
def seinekeep_SizeE : Int → PV := fun r => (PV.int .i64) r
theorem seinekeep_SizeEj (a b : Int) (h : seinekeep_SizeE a = seinekeep_SizeE b) : a = b := (Ev.int_inj _) a b h
noncomputable def seinekeep_Size (v0 : GValue) : Option Int := tO O 13 [(.agg [(.int .i64 v0.kind), (.int .i64 v0.n), (.str v0.s), (.slice (List.map encValue v0.l) [] false), (.slice (List.map encMember v0.m) [] false)])] [] fun r => (seinekeep_SizeE r, [])
theorem seinekeep_Size_spec {v0 : GValue} {r : Int} (h : seinekeep_Size v0 = some r) : O 13 [(.agg [(.int .i64 v0.kind), (.int .i64 v0.n), (.str v0.s), (.slice (List.map encValue v0.l) [] false), (.slice (List.map encMember v0.m) [] false)])] [] = some (seinekeep_SizeE r, []) := tO_spec (enc := fun r => (seinekeep_SizeE r, [])) h
def vars_ofE : (List Str) → PV := fun r => .vec 1 (List.map PV.str r)
theorem vars_ofEj (a b : List Str) (h : vars_ofE a = vars_ofE b) : a = b := Ev.vec_inj Ev.str_inj a b h
noncomputable def vars_of (l0 : List Str) (args : List GMember) : Option (List Str) := tO O 27 [(.vec 1 (List.map PV.str l0)), (.slice (List.map encMember args) [] false)] [] fun r => (vars_ofE r, [])
theorem vars_of_spec {l0 : List Str} {args : List GMember} {r : List Str} (h : vars_of l0 args = some r) : O 27 [(.vec 1 (List.map PV.str l0)), (.slice (List.map encMember args) [] false)] [] = some (vars_ofE r, []) := tO_spec (enc := fun r => (vars_ofE r, [])) h
def vars_written_i1E : (List Str) → PV := fun r => .vec 1 (List.map PV.str r)
theorem vars_written_i1Ej (a b : List Str) (h : vars_written_i1E a = vars_written_i1E b) : a = b := Ev.vec_inj Ev.str_inj a b h
noncomputable def vars_written_i1 (l0 : List Str) (sels : List GSel) : Option (List Str) := tO O 17 [(.vec 1 (List.map PV.str l0)), (.slice (List.map encSel sels) [] false)] [] fun r => (vars_written_i1E r, [])
theorem vars_written_i1_spec {l0 : List Str} {sels : List GSel} {r : List Str} (h : vars_written_i1 l0 sels = some r) : O 17 [(.vec 1 (List.map PV.str l0)), (.slice (List.map encSel sels) [] false)] [] = some (vars_written_i1E r, []) := tO_spec (enc := fun r => (vars_written_i1E r, [])) h
def graph_ReachE : (List Str) → PV := fun r => (encSl PV.str) r
theorem graph_ReachEj (a b : List Str) (h : graph_ReachE a = graph_ReachE b) : a = b := (Ev.encSl_inj Ev.str_inj) a b h
noncomputable def graph_Reach (d : GDoc) (l0 : List GSel) : Option (List Str) := tO O 18 [(.agg [(.slice (List.map encOp d.ops) [] false), (.slice (List.map encFrag d.frags) [] false)]), (.slice (List.map encSel l0) [] false)] [] fun r => (graph_ReachE r, [])
theorem graph_Reach_spec {d : GDoc} {l0 : List GSel} {r : List Str} (h : graph_Reach d l0 = some r) : O 18 [(.agg [(.slice (List.map encOp d.ops) [] false), (.slice (List.map encFrag d.frags) [] false)]), (.slice (List.map encSel l0) [] false)] [] = some (graph_ReachE r, []) := tO_spec (enc := fun r => (graph_ReachE r, [])) h
def graph_Frag_1E : Bool → PV := fun r => PV.bool r
def graph_Frag_1U (f : GFrag) (u0_4 : Str) (u0_40 : Str) (u0_3 : Str) (u0_2 : GDoc) : Bool → UP := fun r => [[(4, [(.str u0_4), (.str u0_40), (.slice [] [] true), (.slice [] [] true)]), (3, [(.str u0_3)]), (2, [(.slice (List.map encOp u0_2.ops) [] false), (.slice (List.map encFrag u0_2.frags) [] false)])]]
theorem graph_Frag_1Ej (a b : Bool) (h : graph_Frag_1E a = graph_Frag_1E b) : a = b := Ev.bool_inj a b h
noncomputable def graph_Frag_1 (f : GFrag) (u0_4 : Str) (u0_40 : Str) (u0_3 : Str) (u0_2 : GDoc) : Option Bool := tO O 31 [(.agg [(.str f.name), (.str f.on_), (.slice (List.map encDir f.dirs) [] false), (.slice (List.map encSel f.sels) [] false)]), (.ptr 1 3 0)] [[(4, [(.str u0_4), (.str u0_40), (.slice [] [] true), (.slice [] [] true)]), (3, [(.str u0_3)]), (2, [(.slice (List.map encOp u0_2.ops) [] false), (.slice (List.map encFrag u0_2.frags) [] false)])]] fun r => (graph_Frag_1E r, (graph_Frag_1U f u0_4 u0_40 u0_3 u0_2 r))
theorem graph_Frag_1_spec {f : GFrag} {u0_4 : Str} {u0_40 : Str} {u0_3 : Str} {u0_2 : GDoc} {r : Bool} (h : graph_Frag_1 f u0_4 u0_40 u0_3 u0_2 = some r) : O 31 [(.agg [(.str f.name), (.str f.on_), (.slice (List.map encDir f.dirs) [] false), (.slice (List.map encSel f.sels) [] false)]), (.ptr 1 3 0)] [[(4, [(.str u0_4), (.str u0_40), (.slice [] [] true), (.slice [] [] true)]), (3, [(.str u0_3)]), (2, [(.slice (List.map encOp u0_2.ops) [] false), (.slice (List.map encFrag u0_2.frags) [] false)])]] = some (graph_Frag_1E r, (graph_Frag_1U f u0_4 u0_40 u0_3 u0_2 r)) := tO_spec (enc := fun r => (graph_Frag_1E r, (graph_Frag_1U f u0_4 u0_40 u0_3 u0_2 r))) h
def slices_IndexFunc_FragE : Int → PV := fun r => (PV.int .i64) r
def slices_IndexFunc_FragU (s : List GFrag) (u0_4 : Str) (u0_40 : Str) (u0_3 : Str) (u0_2 : GDoc) : Int → UP := fun r => [[(4, [(.str u0_4), (.str u0_40), (.slice [] [] true), (.slice [] [] true)]), (3, [(.str u0_3)]), (2, [(.slice (List.map encOp u0_2.ops) [] false), (.slice (List.map encFrag u0_2.frags) [] false)])]]
theorem slices_IndexFunc_FragEj (a b : Int) (h : slices_IndexFunc_FragE a = slices_IndexFunc_FragE b) : a = b := (Ev.int_inj _) a b h
noncomputable def slices_IndexFunc_Frag (s : List GFrag) (u0_4 : Str) (u0_40 : Str) (u0_3 : Str) (u0_2 : GDoc) : Option Int := tO O 30 [(.slice (List.map encFrag s) [] false), (.func (.func 31) [] [(.ptr 1 3 0)])] [[(4, [(.str u0_4), (.str u0_40), (.slice [] [] true), (.slice [] [] true)]), (3, [(.str u0_3)]), (2, [(.slice (List.map encOp u0_2.ops) [] false), (.slice (List.map encFrag u0_2.frags) [] false)])]] fun r => (slices_IndexFunc_FragE r, (slices_IndexFunc_FragU s u0_4 u0_40 u0_3 u0_2 r))
theorem slices_IndexFunc_Frag_spec {s : List GFrag} {u0_4 : Str} {u0_40 : Str} {u0_3 : Str} {u0_2 : GDoc} {r : Int} (h : slices_IndexFunc_Frag s u0_4 u0_40 u0_3 u0_2 = some r) : O 30 [(.slice (List.map encFrag s) [] false), (.func (.func 31) [] [(.ptr 1 3 0)])] [[(4, [(.str u0_4), (.str u0_40), (.slice [] [] true), (.slice [] [] true)]), (3, [(.str u0_3)]), (2, [(.slice (List.map encOp u0_2.ops) [] false), (.slice (List.map encFrag u0_2.frags) [] false)])]] = some (slices_IndexFunc_FragE r, (slices_IndexFunc_FragU s u0_4 u0_40 u0_3 u0_2 r)) := tO_spec (enc := fun r => (slices_IndexFunc_FragE r, (slices_IndexFunc_FragU s u0_4 u0_40 u0_3 u0_2 r))) h
def graph_FragE : (GFrag × Bool) → PV := fun r => .tuple [encFrag r.1, PV.bool r.2]
theorem graph_FragEj (a b : GFrag × Bool) (h : graph_FragE a = graph_FragE b) : a = b := by
  simp only [graph_FragE, PV.tuple.injEq, List.cons.injEq, and_true] at h
  exact Prod.ext (inj_GFrag _ _ h.1) (Ev.bool_inj _ _ h.2)
noncomputable def graph_Frag (d : GDoc) (name : Str) : Option (GFrag × Bool) := tO O 19 [(.agg [(.slice (List.map encOp d.ops) [] false), (.slice (List.map encFrag d.frags) [] false)]), (.str name)] [] fun r => (graph_FragE r, [])
theorem graph_Frag_spec {d : GDoc} {name : Str} {r : GFrag × Bool} (h : graph_Frag d name = some r) : O 19 [(.agg [(.slice (List.map encOp d.ops) [] false), (.slice (List.map encFrag d.frags) [] false)]), (.str name)] [] = some (graph_FragE r, []) := tO_spec (enc := fun r => (graph_FragE r, [])) h
def seineref13_usedSelsE : (List Str) → PV := fun r => .slice (List.map PV.str r) [] true
theorem seineref13_usedSelsEj (a b : List Str) (h : seineref13_usedSelsE a = seineref13_usedSelsE b) : a = b := Ev.encSlO_inj Ev.str_inj a b h
noncomputable def seineref13_usedSels (l0 : List GSel) (out0 : List Str) : Option (List Str) := tO O 20 [(.slice (List.map encSel l0) [] false), (.slice (List.map PV.str out0) [] true)] [] fun r => (seineref13_usedSelsE r, [])
theorem seineref13_usedSels_spec {l0 : List GSel} {out0 : List Str} {r : List Str} (h : seineref13_usedSels l0 out0 = some r) : O 20 [(.slice (List.map encSel l0) [] false), (.slice (List.map PV.str out0) [] true)] [] = some (seineref13_usedSelsE r, []) := tO_spec (enc := fun r => (seineref13_usedSelsE r, [])) h
def seineref13_ReachE : (List Str) → PV := fun r => (encSl PV.str) r
theorem seineref13_ReachEj (a b : List Str) (h : seineref13_ReachE a = seineref13_ReachE b) : a = b := (Ev.encSl_inj Ev.str_inj) a b h
noncomputable def seineref13_Reach (d : GDoc) (l0 : List GSel) : Option (List Str) := tO O 21 [(.agg [(.slice (List.map encOp d.ops) [] false), (.slice (List.map encFrag d.frags) [] false)]), (.slice (List.map encSel l0) [] false)] [] fun r => (seineref13_ReachE r, [])
theorem seineref13_Reach_spec {d : GDoc} {l0 : List GSel} {r : List Str} (h : seineref13_Reach d l0 = some r) : O 21 [(.agg [(.slice (List.map encOp d.ops) [] false), (.slice (List.map encFrag d.frags) [] false)]), (.slice (List.map encSel l0) [] false)] [] = some (seineref13_ReachE r, []) := tO_spec (enc := fun r => (seineref13_ReachE r, [])) h
def seineref13_FragE : (GFrag × Bool) → PV := fun r => .tuple [encFrag r.1, PV.bool r.2]
theorem seineref13_FragEj (a b : GFrag × Bool) (h : seineref13_FragE a = seineref13_FragE b) : a = b := by
  simp only [seineref13_FragE, PV.tuple.injEq, List.cons.injEq, and_true] at h
  exact Prod.ext (inj_GFrag _ _ h.1) (Ev.bool_inj _ _ h.2)
noncomputable def seineref13_Frag (d : GDoc) (name : Str) : Option (GFrag × Bool) := tO O 22 [(.agg [(.slice (List.map encOp d.ops) [] false), (.slice (List.map encFrag d.frags) [] false)]), (.str name)] [] fun r => (seineref13_FragE r, [])
theorem seineref13_Frag_spec {d : GDoc} {name : Str} {r : GFrag × Bool} (h : seineref13_Frag d name = some r) : O 22 [(.agg [(.slice (List.map encOp d.ops) [] false), (.slice (List.map encFrag d.frags) [] false)]), (.str name)] [] = some (seineref13_FragE r, []) := tO_spec (enc := fun r => (seineref13_FragE r, [])) h
def seineref13_SortedE : (List Str) → PV := fun r => (encSl PV.str) r
theorem seineref13_SortedEj (a b : List Str) (h : seineref13_SortedE a = seineref13_SortedE b) : a = b := (Ev.encSl_inj Ev.str_inj) a b h
noncomputable def seineref13_Sorted (l0 : List Str) : Option (List Str) := tO O 23 [(.slice (List.map PV.str l0) [] false)] [] fun r => (seineref13_SortedE r, [])
theorem seineref13_Sorted_spec {l0 : List Str} {r : List Str} (h : seineref13_Sorted l0 = some r) : O 23 [(.slice (List.map PV.str l0) [] false)] [] = some (seineref13_SortedE r, []) := tO_spec (enc := fun r => (seineref13_SortedE r, [])) h
def value_VarsE : (List Str) → PV := fun r => (encSl PV.str) r
theorem value_VarsEj (a b : List Str) (h : value_VarsE a = value_VarsE b) : a = b := (Ev.encSl_inj Ev.str_inj) a b h
noncomputable def value_Vars (v0 : GValue) : Option (List Str) := tO O 44 [(.agg [(.int .i64 v0.kind), (.int .i64 v0.n), (.str v0.s), (.slice (List.map encValue v0.l) [] false), (.slice (List.map encMember v0.m) [] false)])] [] fun r => (value_VarsE r, [])
theorem value_Vars_spec {v0 : GValue} {r : List Str} (h : value_Vars v0 = some r) : O 44 [(.agg [(.int .i64 v0.kind), (.int .i64 v0.n), (.str v0.s), (.slice (List.map encValue v0.l) [] false), (.slice (List.map encMember v0.m) [] false)])] [] = some (value_VarsE r, []) := tO_spec (enc := fun r => (value_VarsE r, [])) h
def vars_insertE : (List Str) → PV := fun r => .vec 1 (List.map PV.str r)
theorem vars_insertEj (a b : List Str) (h : vars_insertE a = vars_insertE b) : a = b := Ev.vec_inj Ev.str_inj a b h
noncomputable def vars_insert (l0 : List Str) (name : Str) : Option (List Str) := tO O 45 [(.vec 1 (List.map PV.str l0)), (.str name)] [] fun r => (vars_insertE r, [])
theorem vars_insert_spec {l0 : List Str} {name : Str} {r : List Str} (h : vars_insert l0 name = some r) : O 45 [(.vec 1 (List.map PV.str l0)), (.str name)] [] = some (vars_insertE r, []) := tO_spec (enc := fun r => (vars_insertE r, [])) h
def graph_reachedE : (List Str) → PV := fun r => (encSl PV.str) r
theorem graph_reachedEj (a b : List Str) (h : graph_reachedE a = graph_reachedE b) : a = b := (Ev.encSl_inj Ev.str_inj) a b h
noncomputable def graph_reached (d : GDoc) (sels : List GSel) : Option (List Str) := tO O 28 [(.agg [(.slice (List.map encOp d.ops) [] false), (.slice (List.map encFrag d.frags) [] false)]), (.slice (List.map encSel sels) [] false)] [] fun r => (graph_reachedE r, [])
theorem graph_reached_spec {d : GDoc} {sels : List GSel} {r : List Str} (h : graph_reached d sels = some r) : O 28 [(.agg [(.slice (List.map encOp d.ops) [] false), (.slice (List.map encFrag d.frags) [] false)]), (.slice (List.map encSel sels) [] false)] [] = some (graph_reachedE r, []) := tO_spec (enc := fun r => (graph_reachedE r, [])) h
def slices_Contains_string_stringE : Bool → PV := fun r => PV.bool r
theorem slices_Contains_string_stringEj (a b : Bool) (h : slices_Contains_string_stringE a = slices_Contains_string_stringE b) : a = b := Ev.bool_inj a b h
noncomputable def slices_Contains_string_string (s : List Str) (v0 : Str) : Option Bool := tO O 29 [(.slice (List.map PV.str s) [] false), (.str v0)] [] fun r => (slices_Contains_string_stringE r, [])
theorem slices_Contains_string_string_spec {s : List Str} {v0 : Str} {r : Bool} (h : slices_Contains_string_string s v0 = some r) : O 29 [(.slice (List.map PV.str s) [] false), (.str v0)] [] = some (slices_Contains_string_stringE r, []) := tO_spec (enc := fun r => (slices_Contains_string_stringE r, [])) h
def seineref13_usedE : (List Str) → PV := fun r => .slice (List.map PV.str r) [] true
theorem seineref13_usedEj (a b : List Str) (h : seineref13_usedE a = seineref13_usedE b) : a = b := Ev.encSlO_inj Ev.str_inj a b h
noncomputable def seineref13_used (m : List GMember) (out0 : List Str) : Option (List Str) := tO O 32 [(.slice (List.map encMember m) [] false), (.slice (List.map PV.str out0) [] true)] [] fun r => (seineref13_usedE r, [])
theorem seineref13_used_spec {m : List GMember} {out0 : List Str} {r : List Str} (h : seineref13_used m out0 = some r) : O 32 [(.slice (List.map encMember m) [] false), (.slice (List.map PV.str out0) [] true)] [] = some (seineref13_usedE r, []) := tO_spec (enc := fun r => (seineref13_usedE r, [])) h
def seineref13_SpreadsE : (List Str) → PV := fun r => .slice (List.map PV.str r) [] true
theorem seineref13_SpreadsEj (a b : List Str) (h : seineref13_SpreadsE a = seineref13_SpreadsE b) : a = b := Ev.encSlO_inj Ev.str_inj a b h
noncomputable def seineref13_Spreads (l0 : List GSel) : Option (List Str) := tO O 33 [(.slice (List.map encSel l0) [] false)] [] fun r => (seineref13_SpreadsE r, [])
theorem seineref13_Spreads_spec {l0 : List GSel} {r : List Str} (h : seineref13_Spreads l0 = some r) : O 33 [(.slice (List.map encSel l0) [] false)] [] = some (seineref13_SpreadsE r, []) := tO_spec (enc := fun r => (seineref13_SpreadsE r, [])) h
def seineref13_spreadsE : (List Str) → PV := fun r => .slice (List.map PV.str r) [] true
theorem seineref13_spreadsEj (a b : List Str) (h : seineref13_spreadsE a = seineref13_spreadsE b) : a = b := Ev.encSlO_inj Ev.str_inj a b h
noncomputable def seineref13_spreads (l0 : List GSel) (out0 : List Str) : Option (List Str) := tO O 34 [(.slice (List.map encSel l0) [] false), (.slice (List.map PV.str out0) [] true)] [] fun r => (seineref13_spreadsE r, [])
theorem seineref13_spreads_spec {l0 : List GSel} {out0 : List Str} {r : List Str} (h : seineref13_spreads l0 out0 = some r) : O 34 [(.slice (List.map encSel l0) [] false), (.slice (List.map PV.str out0) [] true)] [] = some (seineref13_spreadsE r, []) := tO_spec (enc := fun r => (seineref13_spreadsE r, [])) h
def value_varsE : (List Str) → PV := fun r => .slice (List.map PV.str r) [] true
theorem value_varsEj (a b : List Str) (h : value_varsE a = value_varsE b) : a = b := Ev.encSlO_inj Ev.str_inj a b h
noncomputable def value_vars (l0 : List Str) (v0 : GValue) : Option (List Str) := tO O 54 [(.slice (List.map PV.str l0) [] true), (.agg [(.int .i64 v0.kind), (.int .i64 v0.n), (.str v0.s), (.slice (List.map encValue v0.l) [] false), (.slice (List.map encMember v0.m) [] false)])] [] fun r => (value_varsE r, [])
theorem value_vars_spec {l0 : List Str} {v0 : GValue} {r : List Str} (h : value_vars l0 v0 = some r) : O 54 [(.slice (List.map PV.str l0) [] true), (.agg [(.int .i64 v0.kind), (.int .i64 v0.n), (.str v0.s), (.slice (List.map encValue v0.l) [] false), (.slice (List.map encMember v0.m) [] false)])] [] = some (value_varsE r, []) := tO_spec (enc := fun r => (value_varsE r, [])) h
def graph_spreadsE : (List Str) → PV := fun r => .slice (List.map PV.str r) [] true
theorem graph_spreadsEj (a b : List Str) (h : graph_spreadsE a = graph_spreadsE b) : a = b := Ev.encSlO_inj Ev.str_inj a b h
noncomputable def graph_spreads (l0 : List Str) (sels : List GSel) : Option (List Str) := tO O 46 [(.slice (List.map PV.str l0) [] true), (.slice (List.map encSel sels) [] false)] [] fun r => (graph_spreadsE r, [])
theorem graph_spreads_spec {l0 : List Str} {sels : List GSel} {r : List Str} (h : graph_spreads l0 sels = some r) : O 46 [(.slice (List.map PV.str l0) [] true), (.slice (List.map encSel sels) [] false)] [] = some (graph_spreadsE r, []) := tO_spec (enc := fun r => (graph_spreadsE r, [])) h
def slices_Index_string_stringE : Int → PV := fun r => (PV.int .i64) r
theorem slices_Index_string_stringEj (a b : Int) (h : slices_Index_string_stringE a = slices_Index_string_stringE b) : a = b := (Ev.int_inj _) a b h
noncomputable def slices_Index_string_string (s : List Str) (v0 : Str) : Option Int := tO O 47 [(.slice (List.map PV.str s) [] false), (.str v0)] [] fun r => (slices_Index_string_stringE r, [])
theorem slices_Index_string_string_spec {s : List Str} {v0 : Str} {r : Int} (h : slices_Index_string_string s v0 = some r) : O 47 [(.slice (List.map PV.str s) [] false), (.str v0)] [] = some (slices_Index_string_stringE r, []) := tO_spec (enc := fun r => (slices_Index_string_stringE r, [])) h
def seineref1_VarsE : (List Str) → PV := fun r => (encSl PV.str) r
theorem seineref1_VarsEj (a b : List Str) (h : seineref1_VarsE a = seineref1_VarsE b) : a = b := (Ev.encSl_inj Ev.str_inj) a b h
noncomputable def seineref1_Vars (v0 : GValue) : Option (List Str) := tO O 48 [(.agg [(.int .i64 v0.kind), (.int .i64 v0.n), (.str v0.s), (.slice (List.map encValue v0.l) [] false), (.slice (List.map encMember v0.m) [] false)])] [] fun r => (seineref1_VarsE r, [])
theorem seineref1_Vars_spec {v0 : GValue} {r : List Str} (h : seineref1_Vars v0 = some r) : O 48 [(.agg [(.int .i64 v0.kind), (.int .i64 v0.n), (.str v0.s), (.slice (List.map encValue v0.l) [] false), (.slice (List.map encMember v0.m) [] false)])] [] = some (seineref1_VarsE r, []) := tO_spec (enc := fun r => (seineref1_VarsE r, [])) h
def seineref1_varsE : (List Str) → PV := fun r => .slice (List.map PV.str r) [] true
theorem seineref1_varsEj (a b : List Str) (h : seineref1_varsE a = seineref1_varsE b) : a = b := Ev.encSlO_inj Ev.str_inj a b h
noncomputable def seineref1_vars (v0 : GValue) (out0 : List Str) : Option (List Str) := tO O 56 [(.agg [(.int .i64 v0.kind), (.int .i64 v0.n), (.str v0.s), (.slice (List.map encValue v0.l) [] false), (.slice (List.map encMember v0.m) [] false)]), (.slice (List.map PV.str out0) [] true)] [] fun r => (seineref1_varsE r, [])
theorem seineref1_vars_spec {v0 : GValue} {out0 : List Str} {r : List Str} (h : seineref1_vars v0 out0 = some r) : O 56 [(.agg [(.int .i64 v0.kind), (.int .i64 v0.n), (.str v0.s), (.slice (List.map encValue v0.l) [] false), (.slice (List.map encMember v0.m) [] false)]), (.slice (List.map PV.str out0) [] true)] [] = some (seineref1_varsE r, []) := tO_spec (enc := fun r => (seineref1_varsE r, [])) h
end Go.Proofs.Ytphmfillajagdaa

/- Printed by frames.py: the types' readings. -/
set_option linter.unusedVariables false
set_option linter.unusedSimpArgs false
open Go Go.Ev Go.Ev.PV
namespace Go.Proofs.Ytphmfillajagdaa
def bkType (x : GType) : Nat := (bkStr x.name + (bk1 x.lists + (bk1 x.musts + (0)))) + 1
def gdType (x : GType) : Prop := gd1 x.name ∧ ((gdI .i64) x.lists ∧ ((gdI .i64) x.musts ∧ (True)))
theorem bkType_eq (x : GType) : bkType x = (bkStr x.name + (bk1 x.lists + (bk1 x.musts + (0)))) + 1 := rfl
theorem gdType_eq (x : GType) : gdType x = (gd1 x.name ∧ ((gdI .i64) x.lists ∧ ((gdI .i64) x.musts ∧ (True)))) := rfl
mutual
def bkValue : GValue → Nat
  | ⟨x0, x1, x2, x3, x4⟩ => (bk1 x0 + (bk1 x1 + (bkStr x2 + ((bkValues x3 + 1) + ((bkMembers x4 + 1) + (0)))))) + 1
def bkMember : GMember → Nat
  | ⟨x0, x1⟩ => (bkStr x0 + (bkValue x1 + (0))) + 1
def bkValues : List GValue → Nat
  | [] => 0
  | x :: l => bkValue x + bkValues l
def bkMembers : List GMember → Nat
  | [] => 0
  | x :: l => bkMember x + bkMembers l
end
mutual
def gdValue : GValue → Prop
  | ⟨x0, x1, x2, x3, x4⟩ => (gdI .i64) x0 ∧ ((gdI .i64) x1 ∧ (gd1 x2 ∧ (gdValues x3 ∧ (gdMembers x4 ∧ (True)))))
def gdMember : GMember → Prop
  | ⟨x0, x1⟩ => gd1 x0 ∧ (gdValue x1 ∧ (True))
def gdValues : List GValue → Prop
  | [] => True
  | x :: l => gdValue x ∧ gdValues l
def gdMembers : List GMember → Prop
  | [] => True
  | x :: l => gdMember x ∧ gdMembers l
end
theorem bkValues_eq : ∀ (l : List GValue), bkValues l = sumL bkValue l
  | [] => by simp only [bkValues, sumL]
  | x :: l => by simp only [bkValues, sumL, bkValues_eq l]
theorem gdValues_eq : ∀ (l : List GValue), gdValues l = gdSl gdValue l
  | [] => by simp [gdValues, gdSl]
  | x :: l => by simp [gdValues, gdSl, gdValues_eq l]
theorem bkMembers_eq : ∀ (l : List GMember), bkMembers l = sumL bkMember l
  | [] => by simp only [bkMembers, sumL]
  | x :: l => by simp only [bkMembers, sumL, bkMembers_eq l]
theorem gdMembers_eq : ∀ (l : List GMember), gdMembers l = gdSl gdMember l
  | [] => by simp [gdMembers, gdSl]
  | x :: l => by simp [gdMembers, gdSl, gdMembers_eq l]
theorem bkValue_eq (x : GValue) : bkValue x = (bk1 x.kind + (bk1 x.n + (bkStr x.s + ((bkSl bkValue) x.l + ((bkSl bkMember) x.m + (0)))))) + 1 := by
  cases x; simp only [bkValue, bkSl, bkValues_eq, bkMembers_eq]
theorem gdValue_eq (x : GValue) : gdValue x = ((gdI .i64) x.kind ∧ ((gdI .i64) x.n ∧ (gd1 x.s ∧ ((gdSl gdValue) x.l ∧ ((gdSl gdMember) x.m ∧ (True)))))) := by
  cases x; simp only [gdValue, gdValues_eq, gdMembers_eq]
theorem bkMember_eq (x : GMember) : bkMember x = (bkStr x.name + (bkValue x.v + (0))) + 1 := by
  cases x; simp only [bkMember, bkSl, bkValues_eq, bkMembers_eq]
theorem gdMember_eq (x : GMember) : gdMember x = (gd1 x.name ∧ (gdValue x.v ∧ (True))) := by
  cases x; simp only [gdMember, gdValues_eq, gdMembers_eq]
def bkVarDef (x : GVarDef) : Nat := (bkStr x.name + (bkType x.t + (bk1 x.has + (bkValue x.default + (0))))) + 1
def gdVarDef (x : GVarDef) : Prop := gd1 x.name ∧ (gdType x.t ∧ (gd1 x.has ∧ (gdValue x.default ∧ (True))))
theorem bkVarDef_eq (x : GVarDef) : bkVarDef x = (bkStr x.name + (bkType x.t + (bk1 x.has + (bkValue x.default + (0))))) + 1 := rfl
theorem gdVarDef_eq (x : GVarDef) : gdVarDef x = (gd1 x.name ∧ (gdType x.t ∧ (gd1 x.has ∧ (gdValue x.default ∧ (True))))) := rfl
def bkDir (x : GDir) : Nat := (bkStr x.name + ((bkSl bkMember) x.args + (0))) + 1
def gdDir (x : GDir) : Prop := gd1 x.name ∧ ((gdSl gdMember) x.args ∧ (True))
theorem bkDir_eq (x : GDir) : bkDir x = (bkStr x.name + ((bkSl bkMember) x.args + (0))) + 1 := rfl
theorem gdDir_eq (x : GDir) : gdDir x = (gd1 x.name ∧ ((gdSl gdMember) x.args ∧ (True))) := rfl
mutual
def bkSel : GSel → Nat
  | ⟨x0, x1, x2, x3, x4, x5, x6⟩ => (bk1 x0 + (bkStr x1 + (bkStr x2 + ((bkSl bkMember) x3 + ((bkSl bkDir) x4 + (bkStr x5 + ((bkSels x6 + 1) + (0)))))))) + 1
def bkSels : List GSel → Nat
  | [] => 0
  | x :: l => bkSel x + bkSels l
end
mutual
def gdSel : GSel → Prop
  | ⟨x0, x1, x2, x3, x4, x5, x6⟩ => (gdI .i64) x0 ∧ (gd1 x1 ∧ (gd1 x2 ∧ ((gdSl gdMember) x3 ∧ ((gdSl gdDir) x4 ∧ (gd1 x5 ∧ (gdSels x6 ∧ (True)))))))
def gdSels : List GSel → Prop
  | [] => True
  | x :: l => gdSel x ∧ gdSels l
end
theorem bkSels_eq : ∀ (l : List GSel), bkSels l = sumL bkSel l
  | [] => by simp only [bkSels, sumL]
  | x :: l => by simp only [bkSels, sumL, bkSels_eq l]
theorem gdSels_eq : ∀ (l : List GSel), gdSels l = gdSl gdSel l
  | [] => by simp [gdSels, gdSl]
  | x :: l => by simp [gdSels, gdSl, gdSels_eq l]
theorem bkSel_eq (x : GSel) : bkSel x = (bk1 x.kind + (bkStr x.alias + (bkStr x.name + ((bkSl bkMember) x.args + ((bkSl bkDir) x.dirs + (bkStr x.on_ + ((bkSl bkSel) x.sels + (0)))))))) + 1 := by
  cases x; simp only [bkSel, bkSl, bkSels_eq]
theorem gdSel_eq (x : GSel) : gdSel x = ((gdI .i64) x.kind ∧ (gd1 x.alias ∧ (gd1 x.name ∧ ((gdSl gdMember) x.args ∧ ((gdSl gdDir) x.dirs ∧ (gd1 x.on_ ∧ ((gdSl gdSel) x.sels ∧ (True)))))))) := by
  cases x; simp only [gdSel, gdSels_eq]
def bkOp (x : GOp) : Nat := (bk1 x.kind + (bkStr x.name + ((bkSl bkVarDef) x.vars + ((bkSl bkDir) x.dirs + ((bkSl bkSel) x.sels + (0)))))) + 1
def gdOp (x : GOp) : Prop := (gdI .i64) x.kind ∧ (gd1 x.name ∧ ((gdSl gdVarDef) x.vars ∧ ((gdSl gdDir) x.dirs ∧ ((gdSl gdSel) x.sels ∧ (True)))))
theorem bkOp_eq (x : GOp) : bkOp x = (bk1 x.kind + (bkStr x.name + ((bkSl bkVarDef) x.vars + ((bkSl bkDir) x.dirs + ((bkSl bkSel) x.sels + (0)))))) + 1 := rfl
theorem gdOp_eq (x : GOp) : gdOp x = ((gdI .i64) x.kind ∧ (gd1 x.name ∧ ((gdSl gdVarDef) x.vars ∧ ((gdSl gdDir) x.dirs ∧ ((gdSl gdSel) x.sels ∧ (True)))))) := rfl
def bkFrag (x : GFrag) : Nat := (bkStr x.name + (bkStr x.on_ + ((bkSl bkDir) x.dirs + ((bkSl bkSel) x.sels + (0))))) + 1
def gdFrag (x : GFrag) : Prop := gd1 x.name ∧ (gd1 x.on_ ∧ ((gdSl gdDir) x.dirs ∧ ((gdSl gdSel) x.sels ∧ (True))))
theorem bkFrag_eq (x : GFrag) : bkFrag x = (bkStr x.name + (bkStr x.on_ + ((bkSl bkDir) x.dirs + ((bkSl bkSel) x.sels + (0))))) + 1 := rfl
theorem gdFrag_eq (x : GFrag) : gdFrag x = (gd1 x.name ∧ (gd1 x.on_ ∧ ((gdSl gdDir) x.dirs ∧ ((gdSl gdSel) x.sels ∧ (True))))) := rfl
def bkDoc (x : GDoc) : Nat := ((bkSl bkOp) x.ops + ((bkSl bkFrag) x.frags + (0))) + 1
def gdDoc (x : GDoc) : Prop := (gdSl gdOp) x.ops ∧ ((gdSl gdFrag) x.frags ∧ (True))
theorem bkDoc_eq (x : GDoc) : bkDoc x = ((bkSl bkOp) x.ops + ((bkSl bkFrag) x.frags + (0))) + 1 := rfl
theorem gdDoc_eq (x : GDoc) : gdDoc x = ((gdSl gdOp) x.ops ∧ ((gdSl gdFrag) x.frags ∧ (True))) := rfl
def bkParam (x : GParam) : Nat := (bkStr x.name + (bkType x.t + (bk1 x.has + (bkValue x.default + (0))))) + 1
def gdParam (x : GParam) : Prop := gd1 x.name ∧ (gdType x.t ∧ (gd1 x.has ∧ (gdValue x.default ∧ (True))))
theorem bkParam_eq (x : GParam) : bkParam x = (bkStr x.name + (bkType x.t + (bk1 x.has + (bkValue x.default + (0))))) + 1 := rfl
theorem gdParam_eq (x : GParam) : gdParam x = (gd1 x.name ∧ (gdType x.t ∧ (gd1 x.has ∧ (gdValue x.default ∧ (True))))) := rfl
def bkFieldDef (x : GFieldDef) : Nat := (bkStr x.name + ((bkSl bkParam) x.params + (bkType x.t + ((bkSl bkDir) x.dirs + (0))))) + 1
def gdFieldDef (x : GFieldDef) : Prop := gd1 x.name ∧ ((gdSl gdParam) x.params ∧ (gdType x.t ∧ ((gdSl gdDir) x.dirs ∧ (True))))
theorem bkFieldDef_eq (x : GFieldDef) : bkFieldDef x = (bkStr x.name + ((bkSl bkParam) x.params + (bkType x.t + ((bkSl bkDir) x.dirs + (0))))) + 1 := rfl
theorem gdFieldDef_eq (x : GFieldDef) : gdFieldDef x = (gd1 x.name ∧ ((gdSl gdParam) x.params ∧ (gdType x.t ∧ ((gdSl gdDir) x.dirs ∧ (True))))) := rfl
def bkDef (x : GDef) : Nat := (bk1 x.kind + (bkStr x.name + ((bkSl bkStr) x.faces + ((bkSl bkFieldDef) x.fields + ((bkSl bkStr) x.parts + ((bkSl bkParam) x.params + (0))))))) + 1
def gdDef (x : GDef) : Prop := (gdI .i64) x.kind ∧ (gd1 x.name ∧ ((gdSl gd1) x.faces ∧ ((gdSl gdFieldDef) x.fields ∧ ((gdSl gd1) x.parts ∧ ((gdSl gdParam) x.params ∧ (True))))))
theorem bkDef_eq (x : GDef) : bkDef x = (bk1 x.kind + (bkStr x.name + ((bkSl bkStr) x.faces + ((bkSl bkFieldDef) x.fields + ((bkSl bkStr) x.parts + ((bkSl bkParam) x.params + (0))))))) + 1 := rfl
theorem gdDef_eq (x : GDef) : gdDef x = ((gdI .i64) x.kind ∧ (gd1 x.name ∧ ((gdSl gd1) x.faces ∧ ((gdSl gdFieldDef) x.fields ∧ ((gdSl gd1) x.parts ∧ ((gdSl gdParam) x.params ∧ (True))))))) := rfl
def bkSchema (x : GSchema) : Nat := ((bkSl bkDef) x.defs + (bkStr x.query + (bkStr x.mutation + (0)))) + 1
def gdSchema (x : GSchema) : Prop := (gdSl gdDef) x.defs ∧ (gd1 x.query ∧ (gd1 x.mutation ∧ (True)))
theorem bkSchema_eq (x : GSchema) : bkSchema x = ((bkSl bkDef) x.defs + (bkStr x.query + (bkStr x.mutation + (0)))) + 1 := rfl
theorem gdSchema_eq (x : GSchema) : gdSchema x = ((gdSl gdDef) x.defs ∧ (gd1 x.query ∧ (gd1 x.mutation ∧ (True)))) := rfl
def TS : Nat → TypeId
  | 0 => 46
  | 1 => 50
  | 2 => 69
  | 3 => 52
  | 4 => 67
  | 5 => 54
  | 6 => 42
  | 7 => 30
  | 8 => 25
  | 9 => 73
  | 10 => 76
  | 11 => 79
  | _ => 59
def BS : Nat → Ty
  | 0 => (.fcons .str (.fcons (.int .i64) (.fcons (.int .i64) .fnil)))
  | 1 => (.fcons (.int .i64) (.fcons (.int .i64) (.fcons .str (.fcons (.sl (.ext 1)) (.fcons (.sl (.ext 2)) .fnil)))))
  | 2 => (.fcons .str (.fcons (.ext 1) .fnil))
  | 3 => (.fcons .str (.fcons (.ext 0) (.fcons .bool (.fcons (.ext 1) .fnil))))
  | 4 => (.fcons .str (.fcons (.sl (.ext 2)) .fnil))
  | 5 => (.fcons (.int .i64) (.fcons .str (.fcons .str (.fcons (.sl (.ext 2)) (.fcons (.sl (.ext 4)) (.fcons .str (.fcons (.sl (.ext 5)) .fnil)))))))
  | 6 => (.fcons (.int .i64) (.fcons .str (.fcons (.sl (.ext 3)) (.fcons (.sl (.ext 4)) (.fcons (.sl (.ext 5)) .fnil)))))
  | 7 => (.fcons .str (.fcons .str (.fcons (.sl (.ext 4)) (.fcons (.sl (.ext 5)) .fnil))))
  | 8 => (.fcons (.sl (.ext 6)) (.fcons (.sl (.ext 7)) .fnil))
  | 9 => (.fcons .str (.fcons (.ext 0) (.fcons .bool (.fcons (.ext 1) .fnil))))
  | 10 => (.fcons .str (.fcons (.sl (.ext 9)) (.fcons (.ext 0) (.fcons (.sl (.ext 4)) .fnil))))
  | 11 => (.fcons (.int .i64) (.fcons .str (.fcons (.sl .str) (.fcons (.sl (.ext 10)) (.fcons (.sl .str) (.fcons (.sl (.ext 9)) .fnil))))))
  | _ => (.fcons (.sl (.ext 11)) (.fcons .str (.fcons .str .fnil)))
abbrev recType : RecTy := ⟨GType, encType, 3, bkType, gdType, fun x => wf_agg _ (encType_eq x) rfl rfl⟩
abbrev recValue : RecTy := ⟨GValue, encValue, 5, bkValue, gdValue, fun x => wf_agg _ (encValue_eq x) rfl rfl⟩
abbrev recMember : RecTy := ⟨GMember, encMember, 6, bkMember, gdMember, fun x => wf_agg _ (encMember_eq x) rfl rfl⟩
abbrev recVarDef : RecTy := ⟨GVarDef, encVarDef, 10, bkVarDef, gdVarDef, fun x => wf_agg _ (encVarDef_eq x) rfl rfl⟩
abbrev recDir : RecTy := ⟨GDir, encDir, 2, bkDir, gdDir, fun x => wf_agg _ (encDir_eq x) rfl rfl⟩
abbrev recSel : RecTy := ⟨GSel, encSel, 7, bkSel, gdSel, fun x => wf_agg _ (encSel_eq x) rfl rfl⟩
abbrev recOp : RecTy := ⟨GOp, encOp, 5, bkOp, gdOp, fun x => wf_agg _ (encOp_eq x) rfl rfl⟩
abbrev recFrag : RecTy := ⟨GFrag, encFrag, 4, bkFrag, gdFrag, fun x => wf_agg _ (encFrag_eq x) rfl rfl⟩
abbrev recDoc : RecTy := ⟨GDoc, encDoc, 2, bkDoc, gdDoc, fun x => wf_agg _ (encDoc_eq x) rfl rfl⟩
abbrev recParam : RecTy := ⟨GParam, encParam, 10, bkParam, gdParam, fun x => wf_agg _ (encParam_eq x) rfl rfl⟩
abbrev recFieldDef : RecTy := ⟨GFieldDef, encFieldDef, 6, bkFieldDef, gdFieldDef, fun x => wf_agg _ (encFieldDef_eq x) rfl rfl⟩
abbrev recDef : RecTy := ⟨GDef, encDef, 6, bkDef, gdDef, fun x => wf_agg _ (encDef_eq x) rfl rfl⟩
abbrev recSchema : RecTy := ⟨GSchema, encSchema, 3, bkSchema, gdSchema, fun x => wf_agg _ (encSchema_eq x) rfl rfl⟩
abbrev RS : REnv
  | 0 => recType
  | 1 => recValue
  | 2 => recMember
  | 3 => recVarDef
  | 4 => recDir
  | 5 => recSel
  | 6 => recOp
  | 7 => recFrag
  | 8 => recDoc
  | 9 => recParam
  | 10 => recFieldDef
  | 11 => recDef
  | _ => recSchema
theorem hty : ∀ i, ∃ F, Try.prog.underlying (TS i) = some (.struct F) ∧ Try.prog.cellsOf (TS i) = (BS i).size RS ∧ flds RS Try.prog (tyOk RS TS Try.prog 9) F.toList 0 (BS i) = true
  | 0 => ⟨_, Try.underlying46, by kernel_rfl, by kernel_rfl⟩
  | 1 => ⟨_, Try.underlying50, by kernel_rfl, by kernel_rfl⟩
  | 2 => ⟨_, Try.underlying69, by kernel_rfl, by kernel_rfl⟩
  | 3 => ⟨_, Try.underlying52, by kernel_rfl, by kernel_rfl⟩
  | 4 => ⟨_, Try.underlying67, by kernel_rfl, by kernel_rfl⟩
  | 5 => ⟨_, Try.underlying54, by kernel_rfl, by kernel_rfl⟩
  | 6 => ⟨_, Try.underlying42, by kernel_rfl, by kernel_rfl⟩
  | 7 => ⟨_, Try.underlying30, by kernel_rfl, by kernel_rfl⟩
  | 8 => ⟨_, Try.underlying25, by kernel_rfl, by kernel_rfl⟩
  | 9 => ⟨_, Try.underlying73, by kernel_rfl, by kernel_rfl⟩
  | 10 => ⟨_, Try.underlying76, by kernel_rfl, by kernel_rfl⟩
  | 11 => ⟨_, Try.underlying79, by kernel_rfl, by kernel_rfl⟩
  | _ + 12 => ⟨_, Try.underlying59, by kernel_rfl, by kernel_rfl⟩
theorem cvType (x0 : Str) (x1 : Int) (x2 : Int) : encType ⟨x0, x1, x2⟩ = (PV.agg ((PV.str x0).cells ++ (PV.agg (((PV.int .i64) x1).cells ++ (PV.agg (((PV.int .i64) x2).cells ++ (PV.agg []).cells)).cells)).cells)) := by
  simp only [tys, cells, List.cons_append, List.nil_append]
theorem cvValue (x0 : Int) (x1 : Int) (x2 : Str) (x3 : List GValue) (x4 : List GMember) : encValue ⟨x0, x1, x2, x3, x4⟩ = (PV.agg (((PV.int .i64) x0).cells ++ (PV.agg (((PV.int .i64) x1).cells ++ (PV.agg ((PV.str x2).cells ++ (PV.agg ((PV.slice (List.map encValue x3) [] false).cells ++ (PV.agg ((PV.slice (List.map encMember x4) [] false).cells ++ (PV.agg []).cells)).cells)).cells)).cells)).cells)) := by
  simp only [tys, cells, List.cons_append, List.nil_append]
theorem cvMember (x0 : Str) (x1 : GValue) : encMember ⟨x0, x1⟩ = (PV.agg ((PV.str x0).cells ++ (PV.agg ((encValue x1).cells ++ (PV.agg []).cells)).cells)) := by
  simp only [tys, cells, List.cons_append, List.nil_append]
theorem cvVarDef (x0 : Str) (x1 : GType) (x2 : Bool) (x3 : GValue) : encVarDef ⟨x0, x1, x2, x3⟩ = (PV.agg ((PV.str x0).cells ++ (PV.agg ((encType x1).cells ++ (PV.agg ((PV.bool x2).cells ++ (PV.agg ((encValue x3).cells ++ (PV.agg []).cells)).cells)).cells)).cells)) := by
  simp only [tys, cells, List.cons_append, List.nil_append]
theorem cvDir (x0 : Str) (x1 : List GMember) : encDir ⟨x0, x1⟩ = (PV.agg ((PV.str x0).cells ++ (PV.agg ((PV.slice (List.map encMember x1) [] false).cells ++ (PV.agg []).cells)).cells)) := by
  simp only [tys, cells, List.cons_append, List.nil_append]
theorem cvSel (x0 : Int) (x1 : Str) (x2 : Str) (x3 : List GMember) (x4 : List GDir) (x5 : Str) (x6 : List GSel) : encSel ⟨x0, x1, x2, x3, x4, x5, x6⟩ = (PV.agg (((PV.int .i64) x0).cells ++ (PV.agg ((PV.str x1).cells ++ (PV.agg ((PV.str x2).cells ++ (PV.agg ((PV.slice (List.map encMember x3) [] false).cells ++ (PV.agg ((PV.slice (List.map encDir x4) [] false).cells ++ (PV.agg ((PV.str x5).cells ++ (PV.agg ((PV.slice (List.map encSel x6) [] false).cells ++ (PV.agg []).cells)).cells)).cells)).cells)).cells)).cells)).cells)) := by
  simp only [tys, cells, List.cons_append, List.nil_append]
theorem cvOp (x0 : Int) (x1 : Str) (x2 : List GVarDef) (x3 : List GDir) (x4 : List GSel) : encOp ⟨x0, x1, x2, x3, x4⟩ = (PV.agg (((PV.int .i64) x0).cells ++ (PV.agg ((PV.str x1).cells ++ (PV.agg ((PV.slice (List.map encVarDef x2) [] false).cells ++ (PV.agg ((PV.slice (List.map encDir x3) [] false).cells ++ (PV.agg ((PV.slice (List.map encSel x4) [] false).cells ++ (PV.agg []).cells)).cells)).cells)).cells)).cells)) := by
  simp only [tys, cells, List.cons_append, List.nil_append]
theorem cvFrag (x0 : Str) (x1 : Str) (x2 : List GDir) (x3 : List GSel) : encFrag ⟨x0, x1, x2, x3⟩ = (PV.agg ((PV.str x0).cells ++ (PV.agg ((PV.str x1).cells ++ (PV.agg ((PV.slice (List.map encDir x2) [] false).cells ++ (PV.agg ((PV.slice (List.map encSel x3) [] false).cells ++ (PV.agg []).cells)).cells)).cells)).cells)) := by
  simp only [tys, cells, List.cons_append, List.nil_append]
theorem cvDoc (x0 : List GOp) (x1 : List GFrag) : encDoc ⟨x0, x1⟩ = (PV.agg ((PV.slice (List.map encOp x0) [] false).cells ++ (PV.agg ((PV.slice (List.map encFrag x1) [] false).cells ++ (PV.agg []).cells)).cells)) := by
  simp only [tys, cells, List.cons_append, List.nil_append]
theorem cvParam (x0 : Str) (x1 : GType) (x2 : Bool) (x3 : GValue) : encParam ⟨x0, x1, x2, x3⟩ = (PV.agg ((PV.str x0).cells ++ (PV.agg ((encType x1).cells ++ (PV.agg ((PV.bool x2).cells ++ (PV.agg ((encValue x3).cells ++ (PV.agg []).cells)).cells)).cells)).cells)) := by
  simp only [tys, cells, List.cons_append, List.nil_append]
theorem cvFieldDef (x0 : Str) (x1 : List GParam) (x2 : GType) (x3 : List GDir) : encFieldDef ⟨x0, x1, x2, x3⟩ = (PV.agg ((PV.str x0).cells ++ (PV.agg ((PV.slice (List.map encParam x1) [] false).cells ++ (PV.agg ((encType x2).cells ++ (PV.agg ((PV.slice (List.map encDir x3) [] false).cells ++ (PV.agg []).cells)).cells)).cells)).cells)) := by
  simp only [tys, cells, List.cons_append, List.nil_append]
theorem cvDef (x0 : Int) (x1 : Str) (x2 : List Str) (x3 : List GFieldDef) (x4 : List Str) (x5 : List GParam) : encDef ⟨x0, x1, x2, x3, x4, x5⟩ = (PV.agg (((PV.int .i64) x0).cells ++ (PV.agg ((PV.str x1).cells ++ (PV.agg ((PV.slice (List.map PV.str x2) [] false).cells ++ (PV.agg ((PV.slice (List.map encFieldDef x3) [] false).cells ++ (PV.agg ((PV.slice (List.map PV.str x4) [] false).cells ++ (PV.agg ((PV.slice (List.map encParam x5) [] false).cells ++ (PV.agg []).cells)).cells)).cells)).cells)).cells)).cells)) := by
  simp only [tys, cells, List.cons_append, List.nil_append]
theorem cvSchema (x0 : List GDef) (x1 : Str) (x2 : Str) : encSchema ⟨x0, x1, x2⟩ = (PV.agg ((PV.slice (List.map encDef x0) [] false).cells ++ (PV.agg ((PV.str x1).cells ++ (PV.agg ((PV.str x2).cells ++ (PV.agg []).cells)).cells)).cells)) := by
  simp only [tys, cells, List.cons_append, List.nil_append]
theorem hcv : ∀ i (x : (BS i).den RS), ∃ y : (RS i).D, (RS i).en y = enc RS (BS i) x ∧ (RS i).bk y ≤ bulk RS (BS i) x + 1 ∧ (good RS (BS i) x → (RS i).gd y)
  | 0, ⟨x0, x1, x2, _⟩ => ⟨(⟨x0, x1, x2⟩ : GType), (cvType x0 x1 x2).trans rfl, Nat.le_of_eq ((bkType_eq _).trans rfl), fun h => (gdType_eq _).mpr h⟩
  | 1, ⟨x0, x1, x2, x3, x4, _⟩ => ⟨(⟨x0, x1, x2, x3, x4⟩ : GValue), (cvValue x0 x1 x2 x3 x4).trans rfl, Nat.le_of_eq ((bkValue_eq _).trans rfl), fun h => (gdValue_eq _).mpr h⟩
  | 2, ⟨x0, x1, _⟩ => ⟨(⟨x0, x1⟩ : GMember), (cvMember x0 x1).trans rfl, Nat.le_of_eq ((bkMember_eq _).trans rfl), fun h => (gdMember_eq _).mpr h⟩
  | 3, ⟨x0, x1, x2, x3, _⟩ => ⟨(⟨x0, x1, x2, x3⟩ : GVarDef), (cvVarDef x0 x1 x2 x3).trans rfl, Nat.le_of_eq ((bkVarDef_eq _).trans rfl), fun h => (gdVarDef_eq _).mpr h⟩
  | 4, ⟨x0, x1, _⟩ => ⟨(⟨x0, x1⟩ : GDir), (cvDir x0 x1).trans rfl, Nat.le_of_eq ((bkDir_eq _).trans rfl), fun h => (gdDir_eq _).mpr h⟩
  | 5, ⟨x0, x1, x2, x3, x4, x5, x6, _⟩ => ⟨(⟨x0, x1, x2, x3, x4, x5, x6⟩ : GSel), (cvSel x0 x1 x2 x3 x4 x5 x6).trans rfl, Nat.le_of_eq ((bkSel_eq _).trans rfl), fun h => (gdSel_eq _).mpr h⟩
  | 6, ⟨x0, x1, x2, x3, x4, _⟩ => ⟨(⟨x0, x1, x2, x3, x4⟩ : GOp), (cvOp x0 x1 x2 x3 x4).trans rfl, Nat.le_of_eq ((bkOp_eq _).trans rfl), fun h => (gdOp_eq _).mpr h⟩
  | 7, ⟨x0, x1, x2, x3, _⟩ => ⟨(⟨x0, x1, x2, x3⟩ : GFrag), (cvFrag x0 x1 x2 x3).trans rfl, Nat.le_of_eq ((bkFrag_eq _).trans rfl), fun h => (gdFrag_eq _).mpr h⟩
  | 8, ⟨x0, x1, _⟩ => ⟨(⟨x0, x1⟩ : GDoc), (cvDoc x0 x1).trans rfl, Nat.le_of_eq ((bkDoc_eq _).trans rfl), fun h => (gdDoc_eq _).mpr h⟩
  | 9, ⟨x0, x1, x2, x3, _⟩ => ⟨(⟨x0, x1, x2, x3⟩ : GParam), (cvParam x0 x1 x2 x3).trans rfl, Nat.le_of_eq ((bkParam_eq _).trans rfl), fun h => (gdParam_eq _).mpr h⟩
  | 10, ⟨x0, x1, x2, x3, _⟩ => ⟨(⟨x0, x1, x2, x3⟩ : GFieldDef), (cvFieldDef x0 x1 x2 x3).trans rfl, Nat.le_of_eq ((bkFieldDef_eq _).trans rfl), fun h => (gdFieldDef_eq _).mpr h⟩
  | 11, ⟨x0, x1, x2, x3, x4, x5, _⟩ => ⟨(⟨x0, x1, x2, x3, x4, x5⟩ : GDef), (cvDef x0 x1 x2 x3 x4 x5).trans rfl, Nat.le_of_eq ((bkDef_eq _).trans rfl), fun h => (gdDef_eq _).mpr h⟩
  | _ + 12, ⟨x0, x1, x2, _⟩ => ⟨(⟨x0, x1, x2⟩ : GSchema), (cvSchema x0 x1 x2).trans rfl, Nat.le_of_eq ((bkSchema_eq _).trans rfl), fun h => (gdSchema_eq _).mpr h⟩
theorem rok {H : Type} (e : TypeId × Value → H) (W : World) {bl : DataW H → Nat} {bla : List (DataW H) → Nat} (hb : BlOk bl bla) : ROk RS TS e Try.prog W bl where
  op := open_ext hb 9 BS hty hcv
  ag := fun i => match i with
    | 0 => fun x => ⟨_, encType_eq x⟩
    | 1 => fun x => ⟨_, encValue_eq x⟩
    | 2 => fun x => ⟨_, encMember_eq x⟩
    | 3 => fun x => ⟨_, encVarDef_eq x⟩
    | 4 => fun x => ⟨_, encDir_eq x⟩
    | 5 => fun x => ⟨_, encSel_eq x⟩
    | 6 => fun x => ⟨_, encOp_eq x⟩
    | 7 => fun x => ⟨_, encFrag_eq x⟩
    | 8 => fun x => ⟨_, encDoc_eq x⟩
    | 9 => fun x => ⟨_, encParam_eq x⟩
    | 10 => fun x => ⟨_, encFieldDef_eq x⟩
    | 11 => fun x => ⟨_, encDef_eq x⟩
    | _ + 12 => fun x => ⟨_, encSchema_eq x⟩
  st := fun i => (hty i).imp fun F h => h.1
end Go.Proofs.Ytphmfillajagdaa
