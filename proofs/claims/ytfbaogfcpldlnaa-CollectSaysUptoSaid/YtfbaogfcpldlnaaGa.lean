import Derived.Test.YtfbaogfcpldlnaaEd
import Derived.Test.YtfbaogfcpldlnaaProg
import Derived.KernelRfl
set_option linter.unusedVariables false
set_option linter.unusedSimpArgs false
set_option linter.unusedSimpArgs false
open Go Go.Ev Go.Ev.PV
namespace Go.Proofs.Ytfbaogfcpldlnaa
structure GType where
 name : Str
 lists : Int
 musts : Int
mutual
structure GValue where
 kind : Int
 n : Int
 s : Str
 l : List GValue
 m : List GMember
structure GMember where
 name : Str
 v : GValue
end
structure GParam where
 name : Str
 t : GType
 has : Bool
 default : GValue
structure GDir where
 name : Str
 args : List GMember
structure GFieldDef where
 name : Str
 params : List GParam
 t : GType
 dirs : List GDir
structure GDef where
 kind : Int
 name : Str
 faces : List Str
 fields : List GFieldDef
 parts : List Str
 params : List GParam
structure GSchema where
 defs : List GDef
 query : Str
 mutation : Str
structure GVarDef where
 name : Str
 t : GType
 has : Bool
 default : GValue
structure GSel where
 kind : Int
 alias : Str
 name : Str
 args : List GMember
 dirs : List GDir
 on_ : Str
 sels : List GSel
structure GOp where
 kind : Int
 name : Str
 vars : List GVarDef
 dirs : List GDir
 sels : List GSel
structure GFrag where
 name : Str
 on_ : Str
 dirs : List GDir
 sels : List GSel
structure GDoc where
 ops : List GOp
 frags : List GFrag
structure GGroup where
 key : Str
 sels : List GSel
def shType : Sh := .agg [.str, (.int .i64), (.int .i64)]
def shValue : Sh := .agg [(.int .i64), (.int .i64), .str, (.sl false), (.sl false)]
def shMember : Sh := .agg [.str, (.int .i64), (.int .i64), .str, (.sl false), (.sl false)]
def shParam : Sh := .agg [.str, .str, (.int .i64), (.int .i64), .bool, (.int .i64), (.int .i64), .str, (.sl false), (.sl false)]
def shDir : Sh := .agg [.str, (.sl false)]
def shFieldDef : Sh := .agg [.str, (.sl false), .str, (.int .i64), (.int .i64), (.sl false)]
def shDef : Sh := .agg [(.int .i64), .str, (.sl false), (.sl false), (.sl false), (.sl false)]
def shSchema : Sh := .agg [(.sl false), .str, .str]
def shVarDef : Sh := .agg [.str, .str, (.int .i64), (.int .i64), .bool, (.int .i64), (.int .i64), .str, (.sl false), (.sl false)]
def shSel : Sh := .agg [(.int .i64), .str, .str, (.sl false), (.sl false), .str, (.sl false)]
def shOp : Sh := .agg [(.int .i64), .str, (.sl false), (.sl false), (.sl false)]
def shFrag : Sh := .agg [.str, .str, (.sl false), (.sl false)]
def shDoc : Sh := .agg [(.sl false), (.sl false)]
def shGroup : Sh := .agg [.str, (.sl false)]
def encType (x : GType) : PV := .agg [.str x.name, .int .i64 x.lists, .int .i64 x.musts]
theorem encType_eq (x : GType) : encType x = .agg [.str x.name, .int .i64 x.lists, .int .i64 x.musts] := rfl
theorem chk_GType (x : GType) : chk shType (encType x) = true := by rw [encType_eq]; rfl
mutual
def encValue : GValue → PV
 | ⟨x0, x1, x2, x3, x4⟩ => .agg ([.int .i64 x0, .int .i64 x1, .str x2, .slice (encValues x3) [] false, .slice (encMembers x4) [] false])
def encMember : GMember → PV
 | ⟨x0, x1⟩ => .agg ([.str x0] ++ (encValue x1).cells)
def encValues : List GValue → List PV
 | [] => []
 | x :: l => encValue x :: encValues l
def encMembers : List GMember → List PV
 | [] => []
 | x :: l => encMember x :: encMembers l
end
theorem encValues_eq : ∀ (l : List GValue), encValues l = List.map encValue l
 | [] => by simp only [encValues, List.map]
 | x :: l => by simp only [encValues, List.map, encValues_eq l]
theorem encMembers_eq : ∀ (l : List GMember), encMembers l = List.map encMember l
 | [] => by simp only [encMembers, List.map]
 | x :: l => by simp only [encMembers, List.map, encMembers_eq l]
theorem encValue_eq (x : GValue) : encValue x = .agg [.int .i64 x.kind, .int .i64 x.n, .str x.s, .slice (List.map encValue x.l) [] false, .slice (List.map encMember x.m) [] false] := by
 cases x; simp only [encValue, cells, List.cons_append, List.nil_append, encValues_eq, encMembers_eq]
theorem encMember_eq (x : GMember) : encMember x = .agg [.str x.name, .int .i64 x.v.kind, .int .i64 x.v.n, .str x.v.s, .slice (List.map encValue x.v.l) [] false, .slice (List.map encMember x.v.m) [] false] := by
 cases x; simp only [encMember, cells, List.cons_append, List.nil_append, encValues_eq, encMembers_eq, encValue_eq]
theorem chk_GValue (x : GValue) : chk shValue (encValue x) = true := by rw [encValue_eq]; rfl
theorem chk_GMember (x : GMember) : chk shMember (encMember x) = true := by rw [encMember_eq]; rfl
mutual
theorem inj_GValue : ∀ (a b : GValue), encValue a = encValue b → a = b
 | ⟨a0, a1, a2, a3, a4⟩, ⟨b0, b1, b2, b3, b4⟩, h => by
  simp only [encValue, PV.agg.injEq, List.cons.injEq, List.append_eq, PV.slice.injEq, PV.str.injEq, PV.int.injEq, PV.bool.injEq, true_and, and_true] at h
  have e0 := h.1
  have e1 := h.2.1
  have e2 := h.2.2.1
  have e3 := inj_GValues _ _ h.2.2.2.1
  have e4 := inj_GMembers _ _ h.2.2.2.2
  subst e0 e1 e2 e3 e4
  rfl
theorem inj_GMember : ∀ (a b : GMember), encMember a = encMember b → a = b
 | ⟨a0, a1⟩, ⟨b0, b1⟩, h => by
  simp only [encMember, PV.agg.injEq, List.cons_append, List.nil_append, List.cons.injEq, PV.slice.injEq, PV.str.injEq, PV.int.injEq, PV.bool.injEq, true_and, and_true] at h
  have e0 := h.1
  have e1 := inj_GValue a1 b1 (by
   have h' := h.2
   cases a1; cases b1; simp only [encValue, cells] at h' ⊢; rw [h'])
  subst e0 e1
  rfl
theorem inj_GValues : ∀ (a b : List GValue), encValues a = encValues b → a = b
 | [], [], _ => rfl
 | [], _ :: _, h => by simp [encValues] at h
 | _ :: _, [], h => by simp [encValues] at h
 | x :: l, y :: m, h => by
  simp only [encValues, List.cons.injEq] at h
  rw [inj_GValue x y h.1, inj_GValues l m h.2]
theorem inj_GMembers : ∀ (a b : List GMember), encMembers a = encMembers b → a = b
 | [], [], _ => rfl
 | [], _ :: _, h => by simp [encMembers] at h
 | _ :: _, [], h => by simp [encMembers] at h
 | x :: l, y :: m, h => by
  simp only [encMembers, List.cons.injEq] at h
  rw [inj_GMember x y h.1, inj_GMembers l m h.2]
end
def encParam (x : GParam) : PV := .agg [.str x.name, .str x.t.name, .int .i64 x.t.lists, .int .i64 x.t.musts, .bool x.has, .int .i64 x.default.kind, .int .i64 x.default.n, .str x.default.s, .slice (List.map encValue x.default.l) [] false, .slice (List.map encMember x.default.m) [] false]
theorem encParam_eq (x : GParam) : encParam x = .agg [.str x.name, .str x.t.name, .int .i64 x.t.lists, .int .i64 x.t.musts, .bool x.has, .int .i64 x.default.kind, .int .i64 x.default.n, .str x.default.s, .slice (List.map encValue x.default.l) [] false, .slice (List.map encMember x.default.m) [] false] := rfl
theorem chk_GParam (x : GParam) : chk shParam (encParam x) = true := by rw [encParam_eq]; rfl
theorem inj_GParam (a b : GParam) (h : encParam a = encParam b) : a = b := by
 simp only [encParam_eq, PV.agg.injEq, List.cons.injEq, PV.slice.injEq, PV.str.injEq, PV.int.injEq, PV.bool.injEq, true_and, and_true] at h
 obtain ⟨a0, ⟨a1, a2, a3⟩, a4, ⟨a5, a6, a7, a8, a9⟩⟩ := a
 obtain ⟨b0, ⟨b1, b2, b3⟩, b4, ⟨b5, b6, b7, b8, b9⟩⟩ := b
 dsimp only at h
 have e0 := h.1
 have e1 := h.2.1
 have e2 := h.2.2.1
 have e3 := h.2.2.2.1
 have e4 := h.2.2.2.2.1
 have e5 := h.2.2.2.2.2.1
 have e6 := h.2.2.2.2.2.2.1
 have e7 := h.2.2.2.2.2.2.2.1
 have e8 := map_inj' inj_GValue h.2.2.2.2.2.2.2.2.1
 have e9 := map_inj' inj_GMember h.2.2.2.2.2.2.2.2.2
 subst e0 e1 e2 e3 e4 e5 e6 e7 e8 e9
 rfl
def encDir (x : GDir) : PV := .agg [.str x.name, .slice (List.map encMember x.args) [] false]
theorem encDir_eq (x : GDir) : encDir x = .agg [.str x.name, .slice (List.map encMember x.args) [] false] := rfl
theorem chk_GDir (x : GDir) : chk shDir (encDir x) = true := by rw [encDir_eq]; rfl
theorem inj_GDir (a b : GDir) (h : encDir a = encDir b) : a = b := by
 simp only [encDir_eq, PV.agg.injEq, List.cons.injEq, PV.slice.injEq, PV.str.injEq, PV.int.injEq, PV.bool.injEq, true_and, and_true] at h
 obtain ⟨a0, a1⟩ := a
 obtain ⟨b0, b1⟩ := b
 dsimp only at h
 have e0 := h.1
 have e1 := map_inj' inj_GMember h.2
 subst e0 e1
 rfl
def encFieldDef (x : GFieldDef) : PV := .agg [.str x.name, .slice (List.map encParam x.params) [] false, .str x.t.name, .int .i64 x.t.lists, .int .i64 x.t.musts, .slice (List.map encDir x.dirs) [] false]
theorem encFieldDef_eq (x : GFieldDef) : encFieldDef x = .agg [.str x.name, .slice (List.map encParam x.params) [] false, .str x.t.name, .int .i64 x.t.lists, .int .i64 x.t.musts, .slice (List.map encDir x.dirs) [] false] := rfl
theorem chk_GFieldDef (x : GFieldDef) : chk shFieldDef (encFieldDef x) = true := by rw [encFieldDef_eq]; rfl
theorem inj_GFieldDef (a b : GFieldDef) (h : encFieldDef a = encFieldDef b) : a = b := by
 simp only [encFieldDef_eq, PV.agg.injEq, List.cons.injEq, PV.slice.injEq, PV.str.injEq, PV.int.injEq, PV.bool.injEq, true_and, and_true] at h
 obtain ⟨a0, a1, ⟨a2, a3, a4⟩, a5⟩ := a
 obtain ⟨b0, b1, ⟨b2, b3, b4⟩, b5⟩ := b
 dsimp only at h
 have e0 := h.1
 have e1 := map_inj' inj_GParam h.2.1
 have e2 := h.2.2.1
 have e3 := h.2.2.2.1
 have e4 := h.2.2.2.2.1
 have e5 := map_inj' inj_GDir h.2.2.2.2.2
 subst e0 e1 e2 e3 e4 e5
 rfl
def encDef (x : GDef) : PV := .agg [.int .i64 x.kind, .str x.name, .slice (List.map PV.str x.faces) [] false, .slice (List.map encFieldDef x.fields) [] false, .slice (List.map PV.str x.parts) [] false, .slice (List.map encParam x.params) [] false]
theorem encDef_eq (x : GDef) : encDef x = .agg [.int .i64 x.kind, .str x.name, .slice (List.map PV.str x.faces) [] false, .slice (List.map encFieldDef x.fields) [] false, .slice (List.map PV.str x.parts) [] false, .slice (List.map encParam x.params) [] false] := rfl
theorem chk_GDef (x : GDef) : chk shDef (encDef x) = true := by rw [encDef_eq]; rfl
theorem inj_GDef (a b : GDef) (h : encDef a = encDef b) : a = b := by
 simp only [encDef_eq, PV.agg.injEq, List.cons.injEq, PV.slice.injEq, PV.str.injEq, PV.int.injEq, PV.bool.injEq, true_and, and_true] at h
 obtain ⟨a0, a1, a2, a3, a4, a5⟩ := a
 obtain ⟨b0, b1, b2, b3, b4, b5⟩ := b
 dsimp only at h
 have e0 := h.1
 have e1 := h.2.1
 have e2 := map_inj' Ev.str_inj h.2.2.1
 have e3 := map_inj' inj_GFieldDef h.2.2.2.1
 have e4 := map_inj' Ev.str_inj h.2.2.2.2.1
 have e5 := map_inj' inj_GParam h.2.2.2.2.2
 subst e0 e1 e2 e3 e4 e5
 rfl
def encSchema (x : GSchema) : PV := .agg [.slice (List.map encDef x.defs) [] false, .str x.query, .str x.mutation]
theorem encSchema_eq (x : GSchema) : encSchema x = .agg [.slice (List.map encDef x.defs) [] false, .str x.query, .str x.mutation] := rfl
theorem chk_GSchema (x : GSchema) : chk shSchema (encSchema x) = true := by rw [encSchema_eq]; rfl
def encVarDef (x : GVarDef) : PV := .agg [.str x.name, .str x.t.name, .int .i64 x.t.lists, .int .i64 x.t.musts, .bool x.has, .int .i64 x.default.kind, .int .i64 x.default.n, .str x.default.s, .slice (List.map encValue x.default.l) [] false, .slice (List.map encMember x.default.m) [] false]
theorem encVarDef_eq (x : GVarDef) : encVarDef x = .agg [.str x.name, .str x.t.name, .int .i64 x.t.lists, .int .i64 x.t.musts, .bool x.has, .int .i64 x.default.kind, .int .i64 x.default.n, .str x.default.s, .slice (List.map encValue x.default.l) [] false, .slice (List.map encMember x.default.m) [] false] := rfl
theorem chk_GVarDef (x : GVarDef) : chk shVarDef (encVarDef x) = true := by rw [encVarDef_eq]; rfl
theorem inj_GVarDef (a b : GVarDef) (h : encVarDef a = encVarDef b) : a = b := by
 simp only [encVarDef_eq, PV.agg.injEq, List.cons.injEq, PV.slice.injEq, PV.str.injEq, PV.int.injEq, PV.bool.injEq, true_and, and_true] at h
 obtain ⟨a0, ⟨a1, a2, a3⟩, a4, ⟨a5, a6, a7, a8, a9⟩⟩ := a
 obtain ⟨b0, ⟨b1, b2, b3⟩, b4, ⟨b5, b6, b7, b8, b9⟩⟩ := b
 dsimp only at h
 have e0 := h.1
 have e1 := h.2.1
 have e2 := h.2.2.1
 have e3 := h.2.2.2.1
 have e4 := h.2.2.2.2.1
 have e5 := h.2.2.2.2.2.1
 have e6 := h.2.2.2.2.2.2.1
 have e7 := h.2.2.2.2.2.2.2.1
 have e8 := map_inj' inj_GValue h.2.2.2.2.2.2.2.2.1
 have e9 := map_inj' inj_GMember h.2.2.2.2.2.2.2.2.2
 subst e0 e1 e2 e3 e4 e5 e6 e7 e8 e9
 rfl
mutual
def encSel : GSel → PV
 | ⟨x0, x1, x2, x3, x4, x5, x6⟩ => .agg ([.int .i64 x0, .str x1, .str x2, .slice (List.map encMember x3) [] false, .slice (List.map encDir x4) [] false, .str x5, .slice (encSels x6) [] false])
def encSels : List GSel → List PV
 | [] => []
 | x :: l => encSel x :: encSels l
end
theorem encSels_eq : ∀ (l : List GSel), encSels l = List.map encSel l
 | [] => by simp only [encSels, List.map]
 | x :: l => by simp only [encSels, List.map, encSels_eq l]
theorem encSel_eq (x : GSel) : encSel x = .agg [.int .i64 x.kind, .str x.alias, .str x.name, .slice (List.map encMember x.args) [] false, .slice (List.map encDir x.dirs) [] false, .str x.on_, .slice (List.map encSel x.sels) [] false] := by
 cases x; simp only [encSel, cells, List.cons_append, List.nil_append, encSels_eq]
theorem chk_GSel (x : GSel) : chk shSel (encSel x) = true := by rw [encSel_eq]; rfl
mutual
theorem inj_GSel : ∀ (a b : GSel), encSel a = encSel b → a = b
 | ⟨a0, a1, a2, a3, a4, a5, a6⟩, ⟨b0, b1, b2, b3, b4, b5, b6⟩, h => by
  simp only [encSel, PV.agg.injEq, List.cons.injEq, List.append_eq, PV.slice.injEq, PV.str.injEq, PV.int.injEq, PV.bool.injEq, true_and, and_true] at h
  have e0 := h.1
  have e1 := h.2.1
  have e2 := h.2.2.1
  have e3 := map_inj' inj_GMember h.2.2.2.1
  have e4 := map_inj' inj_GDir h.2.2.2.2.1
  have e5 := h.2.2.2.2.2.1
  have e6 := inj_GSels _ _ h.2.2.2.2.2.2
  subst e0 e1 e2 e3 e4 e5 e6
  rfl
theorem inj_GSels : ∀ (a b : List GSel), encSels a = encSels b → a = b
 | [], [], _ => rfl
 | [], _ :: _, h => by simp [encSels] at h
 | _ :: _, [], h => by simp [encSels] at h
 | x :: l, y :: m, h => by
  simp only [encSels, List.cons.injEq] at h
  rw [inj_GSel x y h.1, inj_GSels l m h.2]
end
def encOp (x : GOp) : PV := .agg [.int .i64 x.kind, .str x.name, .slice (List.map encVarDef x.vars) [] false, .slice (List.map encDir x.dirs) [] false, .slice (List.map encSel x.sels) [] false]
theorem encOp_eq (x : GOp) : encOp x = .agg [.int .i64 x.kind, .str x.name, .slice (List.map encVarDef x.vars) [] false, .slice (List.map encDir x.dirs) [] false, .slice (List.map encSel x.sels) [] false] := rfl
theorem chk_GOp (x : GOp) : chk shOp (encOp x) = true := by rw [encOp_eq]; rfl
theorem inj_GOp (a b : GOp) (h : encOp a = encOp b) : a = b := by
 simp only [encOp_eq, PV.agg.injEq, List.cons.injEq, PV.slice.injEq, PV.str.injEq, PV.int.injEq, PV.bool.injEq, true_and, and_true] at h
 obtain ⟨a0, a1, a2, a3, a4⟩ := a
 obtain ⟨b0, b1, b2, b3, b4⟩ := b
 dsimp only at h
 have e0 := h.1
 have e1 := h.2.1
 have e2 := map_inj' inj_GVarDef h.2.2.1
 have e3 := map_inj' inj_GDir h.2.2.2.1
 have e4 := map_inj' inj_GSel h.2.2.2.2
 subst e0 e1 e2 e3 e4
 rfl
def encFrag (x : GFrag) : PV := .agg [.str x.name, .str x.on_, .slice (List.map encDir x.dirs) [] false, .slice (List.map encSel x.sels) [] false]
theorem encFrag_eq (x : GFrag) : encFrag x = .agg [.str x.name, .str x.on_, .slice (List.map encDir x.dirs) [] false, .slice (List.map encSel x.sels) [] false] := rfl
theorem chk_GFrag (x : GFrag) : chk shFrag (encFrag x) = true := by rw [encFrag_eq]; rfl
theorem inj_GFrag (a b : GFrag) (h : encFrag a = encFrag b) : a = b := by
 simp only [encFrag_eq, PV.agg.injEq, List.cons.injEq, PV.slice.injEq, PV.str.injEq, PV.int.injEq, PV.bool.injEq, true_and, and_true] at h
 obtain ⟨a0, a1, a2, a3⟩ := a
 obtain ⟨b0, b1, b2, b3⟩ := b
 dsimp only at h
 have e0 := h.1
 have e1 := h.2.1
 have e2 := map_inj' inj_GDir h.2.2.1
 have e3 := map_inj' inj_GSel h.2.2.2
 subst e0 e1 e2 e3
 rfl
def encDoc (x : GDoc) : PV := .agg [.slice (List.map encOp x.ops) [] false, .slice (List.map encFrag x.frags) [] false]
theorem encDoc_eq (x : GDoc) : encDoc x = .agg [.slice (List.map encOp x.ops) [] false, .slice (List.map encFrag x.frags) [] false] := rfl
theorem chk_GDoc (x : GDoc) : chk shDoc (encDoc x) = true := by rw [encDoc_eq]; rfl
def encGroup (x : GGroup) : PV := .agg [.str x.key, .slice (List.map encSel x.sels) [] false]
theorem encGroup_eq (x : GGroup) : encGroup x = .agg [.str x.key, .slice (List.map encSel x.sels) [] false] := rfl
theorem chk_GGroup (x : GGroup) : chk shGroup (encGroup x) = true := by rw [encGroup_eq]; rfl
theorem inj_GGroup (a b : GGroup) (h : encGroup a = encGroup b) : a = b := by
 simp only [encGroup_eq, PV.agg.injEq, List.cons.injEq, PV.slice.injEq, PV.str.injEq, PV.int.injEq, PV.bool.injEq, true_and, and_true] at h
 obtain ⟨a0, a1⟩ := a
 obtain ⟨b0, b1⟩ := b
 dsimp only at h
 have e0 := h.1
 have e1 := map_inj' inj_GSel h.2
 subst e0 e1
 rfl
theorem tys : (∀ x : GType, encType x = .agg [.str x.name, .int .i64 x.lists, .int .i64 x.musts]) ∧
  (∀ x : GValue, encValue x = .agg [.int .i64 x.kind, .int .i64 x.n, .str x.s, .slice (List.map encValue x.l) [] false, .slice (List.map encMember x.m) [] false]) ∧
  (∀ x : GMember, encMember x = .agg [.str x.name, .int .i64 x.v.kind, .int .i64 x.v.n, .str x.v.s, .slice (List.map encValue x.v.l) [] false, .slice (List.map encMember x.v.m) [] false]) ∧
  (∀ x : GParam, encParam x = .agg [.str x.name, .str x.t.name, .int .i64 x.t.lists, .int .i64 x.t.musts, .bool x.has, .int .i64 x.default.kind, .int .i64 x.default.n, .str x.default.s, .slice (List.map encValue x.default.l) [] false, .slice (List.map encMember x.default.m) [] false]) ∧
  (∀ x : GDir, encDir x = .agg [.str x.name, .slice (List.map encMember x.args) [] false]) ∧
  (∀ x : GFieldDef, encFieldDef x = .agg [.str x.name, .slice (List.map encParam x.params) [] false, .str x.t.name, .int .i64 x.t.lists, .int .i64 x.t.musts, .slice (List.map encDir x.dirs) [] false]) ∧
  (∀ x : GDef, encDef x = .agg [.int .i64 x.kind, .str x.name, .slice (List.map PV.str x.faces) [] false, .slice (List.map encFieldDef x.fields) [] false, .slice (List.map PV.str x.parts) [] false, .slice (List.map encParam x.params) [] false]) ∧
  (∀ x : GSchema, encSchema x = .agg [.slice (List.map encDef x.defs) [] false, .str x.query, .str x.mutation]) ∧
  (∀ x : GVarDef, encVarDef x = .agg [.str x.name, .str x.t.name, .int .i64 x.t.lists, .int .i64 x.t.musts, .bool x.has, .int .i64 x.default.kind, .int .i64 x.default.n, .str x.default.s, .slice (List.map encValue x.default.l) [] false, .slice (List.map encMember x.default.m) [] false]) ∧
  (∀ x : GSel, encSel x = .agg [.int .i64 x.kind, .str x.alias, .str x.name, .slice (List.map encMember x.args) [] false, .slice (List.map encDir x.dirs) [] false, .str x.on_, .slice (List.map encSel x.sels) [] false]) ∧
  (∀ x : GOp, encOp x = .agg [.int .i64 x.kind, .str x.name, .slice (List.map encVarDef x.vars) [] false, .slice (List.map encDir x.dirs) [] false, .slice (List.map encSel x.sels) [] false]) ∧
  (∀ x : GFrag, encFrag x = .agg [.str x.name, .str x.on_, .slice (List.map encDir x.dirs) [] false, .slice (List.map encSel x.sels) [] false]) ∧
  (∀ x : GDoc, encDoc x = .agg [.slice (List.map encOp x.ops) [] false, .slice (List.map encFrag x.frags) [] false]) ∧
  (∀ x : GGroup, encGroup x = .agg [.str x.key, .slice (List.map encSel x.sels) [] false]) := ⟨encType_eq, encValue_eq, encMember_eq, encParam_eq, encDir_eq, encFieldDef_eq, encDef_eq, encSchema_eq, encVarDef_eq, encSel_eq, encOp_eq, encFrag_eq, encDoc_eq, encGroup_eq⟩
theorem chks : (∀ x, chk shType (encType x) = true) ∧
  (∀ x, chk shValue (encValue x) = true) ∧
  (∀ x, chk shMember (encMember x) = true) ∧
  (∀ x, chk shParam (encParam x) = true) ∧
  (∀ x, chk shDir (encDir x) = true) ∧
  (∀ x, chk shFieldDef (encFieldDef x) = true) ∧
  (∀ x, chk shDef (encDef x) = true) ∧
  (∀ x, chk shSchema (encSchema x) = true) ∧
  (∀ x, chk shVarDef (encVarDef x) = true) ∧
  (∀ x, chk shSel (encSel x) = true) ∧
  (∀ x, chk shOp (encOp x) = true) ∧
  (∀ x, chk shFrag (encFrag x) = true) ∧
  (∀ x, chk shDoc (encDoc x) = true) ∧
  (∀ x, chk shGroup (encGroup x) = true) := ⟨chk_GType, chk_GValue, chk_GMember, chk_GParam, chk_GDir, chk_GFieldDef, chk_GDef, chk_GSchema, chk_GVarDef, chk_GSel, chk_GOp, chk_GFrag, chk_GDoc, chk_GGroup⟩
open Go Go.Ev Go.Ev.PV
def bkType (x : GType) : Nat := (bkStr x.name + (bk1 x.lists + (bk1 x.musts + (0)))) + 1
def gdType (x : GType) : Prop := gd1 x.name ∧ ((gdI .i64) x.lists ∧ ((gdI .i64) x.musts ∧ (True)))
theorem bkType_eq (x : GType) : bkType x = (bkStr x.name + (bk1 x.lists + (bk1 x.musts + (0)))) + 1 := rfl
theorem gdType_eq (x : GType) : gdType x = (gd1 x.name ∧ ((gdI .i64) x.lists ∧ ((gdI .i64) x.musts ∧ (True)))) := rfl
mutual
def bkValue : GValue → Nat
 | ⟨x0, x1, x2, x3, x4⟩ => (bk1 x0 + (bk1 x1 + (bkStr x2 + ((bkValues x3 + 1) + ((bkMembers x4 + 1) + (0)))))) + 1
def bkMember : GMember → Nat
 | ⟨x0, x1⟩ => (bkStr x0 + (bkValue x1 + (0))) + 1
def bkValues : List GValue → Nat
 | [] => 0
 | x :: l => bkValue x + bkValues l
def bkMembers : List GMember → Nat
 | [] => 0
 | x :: l => bkMember x + bkMembers l
end
mutual
def gdValue : GValue → Prop
 | ⟨x0, x1, x2, x3, x4⟩ => (gdI .i64) x0 ∧ ((gdI .i64) x1 ∧ (gd1 x2 ∧ (gdValues x3 ∧ (gdMembers x4 ∧ (True)))))
def gdMember : GMember → Prop
 | ⟨x0, x1⟩ => gd1 x0 ∧ (gdValue x1 ∧ (True))
def gdValues : List GValue → Prop
 | [] => True
 | x :: l => gdValue x ∧ gdValues l
def gdMembers : List GMember → Prop
 | [] => True
 | x :: l => gdMember x ∧ gdMembers l
end
theorem bkValues_eq : ∀ (l : List GValue), bkValues l = sumL bkValue l
 | [] => by simp only [bkValues, sumL]
 | x :: l => by simp only [bkValues, sumL, bkValues_eq l]
theorem gdValues_eq : ∀ (l : List GValue), gdValues l = gdSl gdValue l
 | [] => by simp [gdValues, gdSl]
 | x :: l => by simp [gdValues, gdSl, gdValues_eq l]
theorem bkMembers_eq : ∀ (l : List GMember), bkMembers l = sumL bkMember l
 | [] => by simp only [bkMembers, sumL]
 | x :: l => by simp only [bkMembers, sumL, bkMembers_eq l]
theorem gdMembers_eq : ∀ (l : List GMember), gdMembers l = gdSl gdMember l
 | [] => by simp [gdMembers, gdSl]
 | x :: l => by simp [gdMembers, gdSl, gdMembers_eq l]
theorem bkValue_eq (x : GValue) : bkValue x = (bk1 x.kind + (bk1 x.n + (bkStr x.s + ((bkSl bkValue) x.l + ((bkSl bkMember) x.m + (0)))))) + 1 := by
 cases x; simp only [bkValue, bkSl, bkValues_eq, bkMembers_eq]
theorem gdValue_eq (x : GValue) : gdValue x = ((gdI .i64) x.kind ∧ ((gdI .i64) x.n ∧ (gd1 x.s ∧ ((gdSl gdValue) x.l ∧ ((gdSl gdMember) x.m ∧ (True)))))) := by
 cases x; simp only [gdValue, gdValues_eq, gdMembers_eq]
theorem bkMember_eq (x : GMember) : bkMember x = (bkStr x.name + (bkValue x.v + (0))) + 1 := by
 cases x; simp only [bkMember, bkSl, bkValues_eq, bkMembers_eq]
theorem gdMember_eq (x : GMember) : gdMember x = (gd1 x.name ∧ (gdValue x.v ∧ (True))) := by
 cases x; simp only [gdMember, gdValues_eq, gdMembers_eq]
def bkParam (x : GParam) : Nat := (bkStr x.name + (bkType x.t + (bk1 x.has + (bkValue x.default + (0))))) + 1
def gdParam (x : GParam) : Prop := gd1 x.name ∧ (gdType x.t ∧ (gd1 x.has ∧ (gdValue x.default ∧ (True))))
theorem bkParam_eq (x : GParam) : bkParam x = (bkStr x.name + (bkType x.t + (bk1 x.has + (bkValue x.default + (0))))) + 1 := rfl
theorem gdParam_eq (x : GParam) : gdParam x = (gd1 x.name ∧ (gdType x.t ∧ (gd1 x.has ∧ (gdValue x.default ∧ (True))))) := rfl
def bkDir (x : GDir) : Nat := (bkStr x.name + ((bkSl bkMember) x.args + (0))) + 1
def gdDir (x : GDir) : Prop := gd1 x.name ∧ ((gdSl gdMember) x.args ∧ (True))
theorem bkDir_eq (x : GDir) : bkDir x = (bkStr x.name + ((bkSl bkMember) x.args + (0))) + 1 := rfl
theorem gdDir_eq (x : GDir) : gdDir x = (gd1 x.name ∧ ((gdSl gdMember) x.args ∧ (True))) := rfl
def bkFieldDef (x : GFieldDef) : Nat := (bkStr x.name + ((bkSl bkParam) x.params + (bkType x.t + ((bkSl bkDir) x.dirs + (0))))) + 1
def gdFieldDef (x : GFieldDef) : Prop := gd1 x.name ∧ ((gdSl gdParam) x.params ∧ (gdType x.t ∧ ((gdSl gdDir) x.dirs ∧ (True))))
theorem bkFieldDef_eq (x : GFieldDef) : bkFieldDef x = (bkStr x.name + ((bkSl bkParam) x.params + (bkType x.t + ((bkSl bkDir) x.dirs + (0))))) + 1 := rfl
theorem gdFieldDef_eq (x : GFieldDef) : gdFieldDef x = (gd1 x.name ∧ ((gdSl gdParam) x.params ∧ (gdType x.t ∧ ((gdSl gdDir) x.dirs ∧ (True))))) := rfl
def bkDef (x : GDef) : Nat := (bk1 x.kind + (bkStr x.name + ((bkSl bkStr) x.faces + ((bkSl bkFieldDef) x.fields + ((bkSl bkStr) x.parts + ((bkSl bkParam) x.params + (0))))))) + 1
def gdDef (x : GDef) : Prop := (gdI .i64) x.kind ∧ (gd1 x.name ∧ ((gdSl gd1) x.faces ∧ ((gdSl gdFieldDef) x.fields ∧ ((gdSl gd1) x.parts ∧ ((gdSl gdParam) x.params ∧ (True))))))
theorem bkDef_eq (x : GDef) : bkDef x = (bk1 x.kind + (bkStr x.name + ((bkSl bkStr) x.faces + ((bkSl bkFieldDef) x.fields + ((bkSl bkStr) x.parts + ((bkSl bkParam) x.params + (0))))))) + 1 := rfl
theorem gdDef_eq (x : GDef) : gdDef x = ((gdI .i64) x.kind ∧ (gd1 x.name ∧ ((gdSl gd1) x.faces ∧ ((gdSl gdFieldDef) x.fields ∧ ((gdSl gd1) x.parts ∧ ((gdSl gdParam) x.params ∧ (True))))))) := rfl
def bkSchema (x : GSchema) : Nat := ((bkSl bkDef) x.defs + (bkStr x.query + (bkStr x.mutation + (0)))) + 1
def gdSchema (x : GSchema) : Prop := (gdSl gdDef) x.defs ∧ (gd1 x.query ∧ (gd1 x.mutation ∧ (True)))
theorem bkSchema_eq (x : GSchema) : bkSchema x = ((bkSl bkDef) x.defs + (bkStr x.query + (bkStr x.mutation + (0)))) + 1 := rfl
theorem gdSchema_eq (x : GSchema) : gdSchema x = ((gdSl gdDef) x.defs ∧ (gd1 x.query ∧ (gd1 x.mutation ∧ (True)))) := rfl
def bkVarDef (x : GVarDef) : Nat := (bkStr x.name + (bkType x.t + (bk1 x.has + (bkValue x.default + (0))))) + 1
def gdVarDef (x : GVarDef) : Prop := gd1 x.name ∧ (gdType x.t ∧ (gd1 x.has ∧ (gdValue x.default ∧ (True))))
theorem bkVarDef_eq (x : GVarDef) : bkVarDef x = (bkStr x.name + (bkType x.t + (bk1 x.has + (bkValue x.default + (0))))) + 1 := rfl
theorem gdVarDef_eq (x : GVarDef) : gdVarDef x = (gd1 x.name ∧ (gdType x.t ∧ (gd1 x.has ∧ (gdValue x.default ∧ (True))))) := rfl
mutual
def bkSel : GSel → Nat
 | ⟨x0, x1, x2, x3, x4, x5, x6⟩ => (bk1 x0 + (bkStr x1 + (bkStr x2 + ((bkSl bkMember) x3 + ((bkSl bkDir) x4 + (bkStr x5 + ((bkSels x6 + 1) + (0)))))))) + 1
def bkSels : List GSel → Nat
 | [] => 0
 | x :: l => bkSel x + bkSels l
end
mutual
def gdSel : GSel → Prop
 | ⟨x0, x1, x2, x3, x4, x5, x6⟩ => (gdI .i64) x0 ∧ (gd1 x1 ∧ (gd1 x2 ∧ ((gdSl gdMember) x3 ∧ ((gdSl gdDir) x4 ∧ (gd1 x5 ∧ (gdSels x6 ∧ (True)))))))
def gdSels : List GSel → Prop
 | [] => True
 | x :: l => gdSel x ∧ gdSels l
end
theorem bkSels_eq : ∀ (l : List GSel), bkSels l = sumL bkSel l
 | [] => by simp only [bkSels, sumL]
 | x :: l => by simp only [bkSels, sumL, bkSels_eq l]
theorem gdSels_eq : ∀ (l : List GSel), gdSels l = gdSl gdSel l
 | [] => by simp [gdSels, gdSl]
 | x :: l => by simp [gdSels, gdSl, gdSels_eq l]
theorem bkSel_eq (x : GSel) : bkSel x = (bk1 x.kind + (bkStr x.alias + (bkStr x.name + ((bkSl bkMember) x.args + ((bkSl bkDir) x.dirs + (bkStr x.on_ + ((bkSl bkSel) x.sels + (0)))))))) + 1 := by
 cases x; simp only [bkSel, bkSl, bkSels_eq]
theorem gdSel_eq (x : GSel) : gdSel x = ((gdI .i64) x.kind ∧ (gd1 x.alias ∧ (gd1 x.name ∧ ((gdSl gdMember) x.args ∧ ((gdSl gdDir) x.dirs ∧ (gd1 x.on_ ∧ ((gdSl gdSel) x.sels ∧ (True)))))))) := by
 cases x; simp only [gdSel, gdSels_eq]
def bkOp (x : GOp) : Nat := (bk1 x.kind + (bkStr x.name + ((bkSl bkVarDef) x.vars + ((bkSl bkDir) x.dirs + ((bkSl bkSel) x.sels + (0)))))) + 1
def gdOp (x : GOp) : Prop := (gdI .i64) x.kind ∧ (gd1 x.name ∧ ((gdSl gdVarDef) x.vars ∧ ((gdSl gdDir) x.dirs ∧ ((gdSl gdSel) x.sels ∧ (True)))))
theorem bkOp_eq (x : GOp) : bkOp x = (bk1 x.kind + (bkStr x.name + ((bkSl bkVarDef) x.vars + ((bkSl bkDir) x.dirs + ((bkSl bkSel) x.sels + (0)))))) + 1 := rfl
theorem gdOp_eq (x : GOp) : gdOp x = ((gdI .i64) x.kind ∧ (gd1 x.name ∧ ((gdSl gdVarDef) x.vars ∧ ((gdSl gdDir) x.dirs ∧ ((gdSl gdSel) x.sels ∧ (True)))))) := rfl
def bkFrag (x : GFrag) : Nat := (bkStr x.name + (bkStr x.on_ + ((bkSl bkDir) x.dirs + ((bkSl bkSel) x.sels + (0))))) + 1
def gdFrag (x : GFrag) : Prop := gd1 x.name ∧ (gd1 x.on_ ∧ ((gdSl gdDir) x.dirs ∧ ((gdSl gdSel) x.sels ∧ (True))))
theorem bkFrag_eq (x : GFrag) : bkFrag x = (bkStr x.name + (bkStr x.on_ + ((bkSl bkDir) x.dirs + ((bkSl bkSel) x.sels + (0))))) + 1 := rfl
theorem gdFrag_eq (x : GFrag) : gdFrag x = (gd1 x.name ∧ (gd1 x.on_ ∧ ((gdSl gdDir) x.dirs ∧ ((gdSl gdSel) x.sels ∧ (True))))) := rfl
def bkDoc (x : GDoc) : Nat := ((bkSl bkOp) x.ops + ((bkSl bkFrag) x.frags + (0))) + 1
def gdDoc (x : GDoc) : Prop := (gdSl gdOp) x.ops ∧ ((gdSl gdFrag) x.frags ∧ (True))
theorem bkDoc_eq (x : GDoc) : bkDoc x = ((bkSl bkOp) x.ops + ((bkSl bkFrag) x.frags + (0))) + 1 := rfl
theorem gdDoc_eq (x : GDoc) : gdDoc x = ((gdSl gdOp) x.ops ∧ ((gdSl gdFrag) x.frags ∧ (True))) := rfl
def bkGroup (x : GGroup) : Nat := (bkStr x.key + ((bkSl bkSel) x.sels + (0))) + 1
def gdGroup (x : GGroup) : Prop := gd1 x.key ∧ ((gdSl gdSel) x.sels ∧ (True))
theorem bkGroup_eq (x : GGroup) : bkGroup x = (bkStr x.key + ((bkSl bkSel) x.sels + (0))) + 1 := rfl
theorem gdGroup_eq (x : GGroup) : gdGroup x = (gd1 x.key ∧ ((gdSl gdSel) x.sels ∧ (True))) := rfl
def TS : Nat → TypeId
 | 0 => 67
 | 1 => 35
 | 2 => 54
 | 3 => 127
 | 4 => 56
 | 5 => 102
 | 6 => 98
 | 7 => 24
 | 8 => 109
 | 9 => 41
 | 10 => 106
 | 11 => 60
 | 12 => 28
 | _ => 50
def BS : Nat → Ty
 | 0 => (.fcons .str (.fcons (.int .i64) (.fcons (.int .i64) .fnil)))
 | 1 => (.fcons (.int .i64) (.fcons (.int .i64) (.fcons .str (.fcons (.sl (.ext 1)) (.fcons (.sl (.ext 2)) .fnil)))))
 | 2 => (.fcons .str (.fcons (.ext 1) .fnil))
 | 3 => (.fcons .str (.fcons (.ext 0) (.fcons .bool (.fcons (.ext 1) .fnil))))
 | 4 => (.fcons .str (.fcons (.sl (.ext 2)) .fnil))
 | 5 => (.fcons .str (.fcons (.sl (.ext 3)) (.fcons (.ext 0) (.fcons (.sl (.ext 4)) .fnil))))
 | 6 => (.fcons (.int .i64) (.fcons .str (.fcons (.sl .str) (.fcons (.sl (.ext 5)) (.fcons (.sl .str) (.fcons (.sl (.ext 3)) .fnil))))))
 | 7 => (.fcons (.sl (.ext 6)) (.fcons .str (.fcons .str .fnil)))
 | 8 => (.fcons .str (.fcons (.ext 0) (.fcons .bool (.fcons (.ext 1) .fnil))))
 | 9 => (.fcons (.int .i64) (.fcons .str (.fcons .str (.fcons (.sl (.ext 2)) (.fcons (.sl (.ext 4)) (.fcons .str (.fcons (.sl (.ext 9)) .fnil)))))))
 | 10 => (.fcons (.int .i64) (.fcons .str (.fcons (.sl (.ext 8)) (.fcons (.sl (.ext 4)) (.fcons (.sl (.ext 9)) .fnil)))))
 | 11 => (.fcons .str (.fcons .str (.fcons (.sl (.ext 4)) (.fcons (.sl (.ext 9)) .fnil))))
 | 12 => (.fcons (.sl (.ext 10)) (.fcons (.sl (.ext 11)) .fnil))
 | _ => (.fcons .str (.fcons (.sl (.ext 9)) .fnil))
abbrev recType : RecTy := ⟨GType, encType, 3, bkType, gdType, fun x => wf_agg _ (encType_eq x) rfl rfl⟩
abbrev recValue : RecTy := ⟨GValue, encValue, 5, bkValue, gdValue, fun x => wf_agg _ (encValue_eq x) rfl rfl⟩
abbrev recMember : RecTy := ⟨GMember, encMember, 6, bkMember, gdMember, fun x => wf_agg _ (encMember_eq x) rfl rfl⟩
abbrev recParam : RecTy := ⟨GParam, encParam, 10, bkParam, gdParam, fun x => wf_agg _ (encParam_eq x) rfl rfl⟩
abbrev recDir : RecTy := ⟨GDir, encDir, 2, bkDir, gdDir, fun x => wf_agg _ (encDir_eq x) rfl rfl⟩
abbrev recFieldDef : RecTy := ⟨GFieldDef, encFieldDef, 6, bkFieldDef, gdFieldDef, fun x => wf_agg _ (encFieldDef_eq x) rfl rfl⟩
abbrev recDef : RecTy := ⟨GDef, encDef, 6, bkDef, gdDef, fun x => wf_agg _ (encDef_eq x) rfl rfl⟩
abbrev recSchema : RecTy := ⟨GSchema, encSchema, 3, bkSchema, gdSchema, fun x => wf_agg _ (encSchema_eq x) rfl rfl⟩
abbrev recVarDef : RecTy := ⟨GVarDef, encVarDef, 10, bkVarDef, gdVarDef, fun x => wf_agg _ (encVarDef_eq x) rfl rfl⟩
abbrev recSel : RecTy := ⟨GSel, encSel, 7, bkSel, gdSel, fun x => wf_agg _ (encSel_eq x) rfl rfl⟩
abbrev recOp : RecTy := ⟨GOp, encOp, 5, bkOp, gdOp, fun x => wf_agg _ (encOp_eq x) rfl rfl⟩
abbrev recFrag : RecTy := ⟨GFrag, encFrag, 4, bkFrag, gdFrag, fun x => wf_agg _ (encFrag_eq x) rfl rfl⟩
abbrev recDoc : RecTy := ⟨GDoc, encDoc, 2, bkDoc, gdDoc, fun x => wf_agg _ (encDoc_eq x) rfl rfl⟩
abbrev recGroup : RecTy := ⟨GGroup, encGroup, 2, bkGroup, gdGroup, fun x => wf_agg _ (encGroup_eq x) rfl rfl⟩
abbrev RS : REnv
 | 0 => recType
 | 1 => recValue
 | 2 => recMember
 | 3 => recParam
 | 4 => recDir
 | 5 => recFieldDef
 | 6 => recDef
 | 7 => recSchema
 | 8 => recVarDef
 | 9 => recSel
 | 10 => recOp
 | 11 => recFrag
 | 12 => recDoc
 | _ => recGroup
theorem hty : ∀ i, ∃ F, Try.prog.underlying (TS i) = some (.struct F) ∧ Try.prog.cellsOf (TS i) = (BS i).size RS ∧ flds RS Try.prog (tyOk RS TS Try.prog 9) F.toList 0 (BS i) = true
 | 0 => ⟨_, Try.underlying67, by kernel_rfl, by kernel_rfl⟩
 | 1 => ⟨_, Try.underlying35, by kernel_rfl, by kernel_rfl⟩
 | 2 => ⟨_, Try.underlying54, by kernel_rfl, by kernel_rfl⟩
 | 3 => ⟨_, Try.underlying127, by kernel_rfl, by kernel_rfl⟩
 | 4 => ⟨_, Try.underlying56, by kernel_rfl, by kernel_rfl⟩
 | 5 => ⟨_, Try.underlying102, by kernel_rfl, by kernel_rfl⟩
 | 6 => ⟨_, Try.underlying98, by kernel_rfl, by kernel_rfl⟩
 | 7 => ⟨_, Try.underlying24, by kernel_rfl, by kernel_rfl⟩
 | 8 => ⟨_, Try.underlying109, by kernel_rfl, by kernel_rfl⟩
 | 9 => ⟨_, Try.underlying41, by kernel_rfl, by kernel_rfl⟩
 | 10 => ⟨_, Try.underlying106, by kernel_rfl, by kernel_rfl⟩
 | 11 => ⟨_, Try.underlying60, by kernel_rfl, by kernel_rfl⟩
 | 12 => ⟨_, Try.underlying28, by kernel_rfl, by kernel_rfl⟩
 | _ + 13 => ⟨_, Try.underlying50, by kernel_rfl, by kernel_rfl⟩
theorem cvType (x0 : Str) (x1 : Int) (x2 : Int) : encType ⟨x0, x1, x2⟩ = (PV.agg ((PV.str x0).cells ++ (PV.agg (((PV.int .i64) x1).cells ++ (PV.agg (((PV.int .i64) x2).cells ++ (PV.agg []).cells)).cells)).cells)) := by
 simp only [tys, cells, List.cons_append, List.nil_append]
theorem cvValue (x0 : Int) (x1 : Int) (x2 : Str) (x3 : List GValue) (x4 : List GMember) : encValue ⟨x0, x1, x2, x3, x4⟩ = (PV.agg (((PV.int .i64) x0).cells ++ (PV.agg (((PV.int .i64) x1).cells ++ (PV.agg ((PV.str x2).cells ++ (PV.agg ((PV.slice (List.map encValue x3) [] false).cells ++ (PV.agg ((PV.slice (List.map encMember x4) [] false).cells ++ (PV.agg []).cells)).cells)).cells)).cells)).cells)) := by
 simp only [tys, cells, List.cons_append, List.nil_append]
theorem cvMember (x0 : Str) (x1 : GValue) : encMember ⟨x0, x1⟩ = (PV.agg ((PV.str x0).cells ++ (PV.agg ((encValue x1).cells ++ (PV.agg []).cells)).cells)) := by
 simp only [tys, cells, List.cons_append, List.nil_append]
theorem cvParam (x0 : Str) (x1 : GType) (x2 : Bool) (x3 : GValue) : encParam ⟨x0, x1, x2, x3⟩ = (PV.agg ((PV.str x0).cells ++ (PV.agg ((encType x1).cells ++ (PV.agg ((PV.bool x2).cells ++ (PV.agg ((encValue x3).cells ++ (PV.agg []).cells)).cells)).cells)).cells)) := by
 simp only [tys, cells, List.cons_append, List.nil_append]
theorem cvDir (x0 : Str) (x1 : List GMember) : encDir ⟨x0, x1⟩ = (PV.agg ((PV.str x0).cells ++ (PV.agg ((PV.slice (List.map encMember x1) [] false).cells ++ (PV.agg []).cells)).cells)) := by
 simp only [tys, cells, List.cons_append, List.nil_append]
theorem cvFieldDef (x0 : Str) (x1 : List GParam) (x2 : GType) (x3 : List GDir) : encFieldDef ⟨x0, x1, x2, x3⟩ = (PV.agg ((PV.str x0).cells ++ (PV.agg ((PV.slice (List.map encParam x1) [] false).cells ++ (PV.agg ((encType x2).cells ++ (PV.agg ((PV.slice (List.map encDir x3) [] false).cells ++ (PV.agg []).cells)).cells)).cells)).cells)) := by
 simp only [tys, cells, List.cons_append, List.nil_append]
theorem cvDef (x0 : Int) (x1 : Str) (x2 : List Str) (x3 : List GFieldDef) (x4 : List Str) (x5 : List GParam) : encDef ⟨x0, x1, x2, x3, x4, x5⟩ = (PV.agg (((PV.int .i64) x0).cells ++ (PV.agg ((PV.str x1).cells ++ (PV.agg ((PV.slice (List.map PV.str x2) [] false).cells ++ (PV.agg ((PV.slice (List.map encFieldDef x3) [] false).cells ++ (PV.agg ((PV.slice (List.map PV.str x4) [] false).cells ++ (PV.agg ((PV.slice (List.map encParam x5) [] false).cells ++ (PV.agg []).cells)).cells)).cells)).cells)).cells)).cells)) := by
 simp only [tys, cells, List.cons_append, List.nil_append]
theorem cvSchema (x0 : List GDef) (x1 : Str) (x2 : Str) : encSchema ⟨x0, x1, x2⟩ = (PV.agg ((PV.slice (List.map encDef x0) [] false).cells ++ (PV.agg ((PV.str x1).cells ++ (PV.agg ((PV.str x2).cells ++ (PV.agg []).cells)).cells)).cells)) := by
 simp only [tys, cells, List.cons_append, List.nil_append]
theorem cvVarDef (x0 : Str) (x1 : GType) (x2 : Bool) (x3 : GValue) : encVarDef ⟨x0, x1, x2, x3⟩ = (PV.agg ((PV.str x0).cells ++ (PV.agg ((encType x1).cells ++ (PV.agg ((PV.bool x2).cells ++ (PV.agg ((encValue x3).cells ++ (PV.agg []).cells)).cells)).cells)).cells)) := by
 simp only [tys, cells, List.cons_append, List.nil_append]
theorem cvSel (x0 : Int) (x1 : Str) (x2 : Str) (x3 : List GMember) (x4 : List GDir) (x5 : Str) (x6 : List GSel) : encSel ⟨x0, x1, x2, x3, x4, x5, x6⟩ = (PV.agg (((PV.int .i64) x0).cells ++ (PV.agg ((PV.str x1).cells ++ (PV.agg ((PV.str x2).cells ++ (PV.agg ((PV.slice (List.map encMember x3) [] false).cells ++ (PV.agg ((PV.slice (List.map encDir x4) [] false).cells ++ (PV.agg ((PV.str x5).cells ++ (PV.agg ((PV.slice (List.map encSel x6) [] false).cells ++ (PV.agg []).cells)).cells)).cells)).cells)).cells)).cells)).cells)) := by
 simp only [tys, cells, List.cons_append, List.nil_append]
theorem cvOp (x0 : Int) (x1 : Str) (x2 : List GVarDef) (x3 : List GDir) (x4 : List GSel) : encOp ⟨x0, x1, x2, x3, x4⟩ = (PV.agg (((PV.int .i64) x0).cells ++ (PV.agg ((PV.str x1).cells ++ (PV.agg ((PV.slice (List.map encVarDef x2) [] false).cells ++ (PV.agg ((PV.slice (List.map encDir x3) [] false).cells ++ (PV.agg ((PV.slice (List.map encSel x4) [] false).cells ++ (PV.agg []).cells)).cells)).cells)).cells)).cells)) := by
 simp only [tys, cells, List.cons_append, List.nil_append]
theorem cvFrag (x0 : Str) (x1 : Str) (x2 : List GDir) (x3 : List GSel) : encFrag ⟨x0, x1, x2, x3⟩ = (PV.agg ((PV.str x0).cells ++ (PV.agg ((PV.str x1).cells ++ (PV.agg ((PV.slice (List.map encDir x2) [] false).cells ++ (PV.agg ((PV.slice (List.map encSel x3) [] false).cells ++ (PV.agg []).cells)).cells)).cells)).cells)) := by
 simp only [tys, cells, List.cons_append, List.nil_append]
theorem cvDoc (x0 : List GOp) (x1 : List GFrag) : encDoc ⟨x0, x1⟩ = (PV.agg ((PV.slice (List.map encOp x0) [] false).cells ++ (PV.agg ((PV.slice (List.map encFrag x1) [] false).cells ++ (PV.agg []).cells)).cells)) := by
 simp only [tys, cells, List.cons_append, List.nil_append]
theorem cvGroup (x0 : Str) (x1 : List GSel) : encGroup ⟨x0, x1⟩ = (PV.agg ((PV.str x0).cells ++ (PV.agg ((PV.slice (List.map encSel x1) [] false).cells ++ (PV.agg []).cells)).cells)) := by
 simp only [tys, cells, List.cons_append, List.nil_append]
theorem hcv : ∀ i (x : (BS i).den RS), ∃ y : (RS i).D, (RS i).en y = enc RS (BS i) x ∧ (RS i).bk y ≤ bulk RS (BS i) x + 1 ∧ (good RS (BS i) x → (RS i).gd y)
 | 0, ⟨x0, x1, x2, _⟩ => ⟨(⟨x0, x1, x2⟩ : GType), (cvType x0 x1 x2).trans rfl, Nat.le_of_eq ((bkType_eq _).trans rfl), fun h => (gdType_eq _).mpr h⟩
 | 1, ⟨x0, x1, x2, x3, x4, _⟩ => ⟨(⟨x0, x1, x2, x3, x4⟩ : GValue), (cvValue x0 x1 x2 x3 x4).trans rfl, Nat.le_of_eq ((bkValue_eq _).trans rfl), fun h => (gdValue_eq _).mpr h⟩
 | 2, ⟨x0, x1, _⟩ => ⟨(⟨x0, x1⟩ : GMember), (cvMember x0 x1).trans rfl, Nat.le_of_eq ((bkMember_eq _).trans rfl), fun h => (gdMember_eq _).mpr h⟩
 | 3, ⟨x0, x1, x2, x3, _⟩ => ⟨(⟨x0, x1, x2, x3⟩ : GParam), (cvParam x0 x1 x2 x3).trans rfl, Nat.le_of_eq ((bkParam_eq _).trans rfl), fun h => (gdParam_eq _).mpr h⟩
 | 4, ⟨x0, x1, _⟩ => ⟨(⟨x0, x1⟩ : GDir), (cvDir x0 x1).trans rfl, Nat.le_of_eq ((bkDir_eq _).trans rfl), fun h => (gdDir_eq _).mpr h⟩
 | 5, ⟨x0, x1, x2, x3, _⟩ => ⟨(⟨x0, x1, x2, x3⟩ : GFieldDef), (cvFieldDef x0 x1 x2 x3).trans rfl, Nat.le_of_eq ((bkFieldDef_eq _).trans rfl), fun h => (gdFieldDef_eq _).mpr h⟩
 | 6, ⟨x0, x1, x2, x3, x4, x5, _⟩ => ⟨(⟨x0, x1, x2, x3, x4, x5⟩ : GDef), (cvDef x0 x1 x2 x3 x4 x5).trans rfl, Nat.le_of_eq ((bkDef_eq _).trans rfl), fun h => (gdDef_eq _).mpr h⟩
 | 7, ⟨x0, x1, x2, _⟩ => ⟨(⟨x0, x1, x2⟩ : GSchema), (cvSchema x0 x1 x2).trans rfl, Nat.le_of_eq ((bkSchema_eq _).trans rfl), fun h => (gdSchema_eq _).mpr h⟩
 | 8, ⟨x0, x1, x2, x3, _⟩ => ⟨(⟨x0, x1, x2, x3⟩ : GVarDef), (cvVarDef x0 x1 x2 x3).trans rfl, Nat.le_of_eq ((bkVarDef_eq _).trans rfl), fun h => (gdVarDef_eq _).mpr h⟩
 | 9, ⟨x0, x1, x2, x3, x4, x5, x6, _⟩ => ⟨(⟨x0, x1, x2, x3, x4, x5, x6⟩ : GSel), (cvSel x0 x1 x2 x3 x4 x5 x6).trans rfl, Nat.le_of_eq ((bkSel_eq _).trans rfl), fun h => (gdSel_eq _).mpr h⟩
 | 10, ⟨x0, x1, x2, x3, x4, _⟩ => ⟨(⟨x0, x1, x2, x3, x4⟩ : GOp), (cvOp x0 x1 x2 x3 x4).trans rfl, Nat.le_of_eq ((bkOp_eq _).trans rfl), fun h => (gdOp_eq _).mpr h⟩
 | 11, ⟨x0, x1, x2, x3, _⟩ => ⟨(⟨x0, x1, x2, x3⟩ : GFrag), (cvFrag x0 x1 x2 x3).trans rfl, Nat.le_of_eq ((bkFrag_eq _).trans rfl), fun h => (gdFrag_eq _).mpr h⟩
 | 12, ⟨x0, x1, _⟩ => ⟨(⟨x0, x1⟩ : GDoc), (cvDoc x0 x1).trans rfl, Nat.le_of_eq ((bkDoc_eq _).trans rfl), fun h => (gdDoc_eq _).mpr h⟩
 | _ + 13, ⟨x0, x1, _⟩ => ⟨(⟨x0, x1⟩ : GGroup), (cvGroup x0 x1).trans rfl, Nat.le_of_eq ((bkGroup_eq _).trans rfl), fun h => (gdGroup_eq _).mpr h⟩
theorem rok {H : Type} (e : TypeId × Value → H) (W : World) {bl : DataW H → Nat} {bla : List (DataW H) → Nat} (hb : BlOk bl bla) : ROk RS TS e Try.prog W bl where
 op := open_ext hb 9 BS hty hcv
 ag := fun i => match i with
  | 0 => fun x => ⟨_, encType_eq x⟩
  | 1 => fun x => ⟨_, encValue_eq x⟩
  | 2 => fun x => ⟨_, encMember_eq x⟩
  | 3 => fun x => ⟨_, encParam_eq x⟩
  | 4 => fun x => ⟨_, encDir_eq x⟩
  | 5 => fun x => ⟨_, encFieldDef_eq x⟩
  | 6 => fun x => ⟨_, encDef_eq x⟩
  | 7 => fun x => ⟨_, encSchema_eq x⟩
  | 8 => fun x => ⟨_, encVarDef_eq x⟩
  | 9 => fun x => ⟨_, encSel_eq x⟩
  | 10 => fun x => ⟨_, encOp_eq x⟩
  | 11 => fun x => ⟨_, encFrag_eq x⟩
  | 12 => fun x => ⟨_, encDoc_eq x⟩
  | _ + 13 => fun x => ⟨_, encGroup_eq x⟩
 st := fun i => (hty i).imp fun F h => h.1
open Go Go.Ev
def gAdd (l : List Str) (n : Str) : List Str := bif l.contains n then l else l ++ [n]
def gScalar (n : Str) : Bool := n == [73, 110, 116] || (n == [83, 116, 114, 105, 110, 103] || (n == [66, 111, 111, 108, 101, 97, 110] || n == [73, 68]))
def gFind (s : GSchema) (n : Str) : GDef × Bool := bif gScalar n then (⟨0, n, [], [], [], []⟩, true) else match s.defs.find? (fun d => d.name == n) with | some d => (d, true) | none => (⟨0, [], [], [], [], []⟩, false)
def gKind (s : GSchema) (n : Str) (ks : List Int) : Bool := (gFind s n).2 && ks.contains (gFind s n).1.kind
def gPoss (s : GSchema) (n : Str) : List Str :=
 let x := gFind s n
 bif !x.2 then [] else bif x.1.kind == 1 then [n]
 else bif x.1.kind == 2 then s.defs.foldl (fun l d => bif d.kind == 1 && d.faces.contains n then gAdd l d.name else l) []
 else bif x.1.kind == 3 then x.1.parts.foldl (fun l p => bif gKind s p [1] then gAdd l p else l) [] else []
def gFrag (d : GDoc) (n : Str) : GFrag × Bool := match d.frags.find? (fun f => f.name == n) with | some f => (f, true) | none => (⟨[], [], [], []⟩, false)
def gGet (n : Str) (l : List GMember) : GValue := match l.find? (fun m => m.name == n) with | some m => m.v | none => ⟨0, 0, [], [], []⟩
def gYes (env : List GMember) (d : GDir) : Bool :=
 let v := gGet [105, 102] d.args
 let v := bif v.kind == 8 then gGet v.s env else v
 v.kind == 1 && v.n == 1
def gFirst (env : List GMember) (n : Str) (l : List GDir) : Bool × Bool := match l.find? (fun d => d.name == n) with | some d => (true, gYes env d) | none => (false, false)
def gHolds (env : List GMember) (l : List GDir) : Bool := !(gFirst env [115, 107, 105, 112] l).2 && (!(gFirst env [105, 110, 99, 108, 117, 100, 101] l).1 || (gFirst env [105, 110, 99, 108, 117, 100, 101] l).2)
def gApplies (s : GSchema) (typ on0 : Str) : Bool := on0 == [] || (on0 == typ || (gPoss s on0).contains typ)
def gKey (x : GSel) : Str := bif x.kind != 0 then [] else bif !(x.alias == []) then x.alias else x.name
abbrev GSt := List GGroup × List Str
def putG : List GGroup → Str → GSel → List GGroup
 | [], k, x => [⟨k, [x]⟩]
 | g :: r, k, x => if g.key = k then ⟨g.key, g.sels ++ [x]⟩ :: r else g :: putG r k x
structure GEnv where
 s : GSchema
 d : GDoc
 env : List GMember
 typ : Str
def stepG (e : GEnv) (rec : List GSel → GSt → Option GSt) (x : GSel) (st : GSt) : Option GSt :=
 bif gHolds e.env x.dirs then
 bif x.kind == 0 then some (putG st.1 (gKey x) x, st.2)
 else bif x.kind == 1 then
 bif st.2.contains x.name then some st
 else bif (gFrag e.d x.name).2 && gApplies e.s e.typ (gFrag e.d x.name).1.on_ then rec (gFrag e.d x.name).1.sels (st.1, st.2 ++ [x.name])
 else some (st.1, st.2 ++ [x.name])
 else bif x.kind == 2 then
 bif gApplies e.s e.typ x.on_ then rec x.sels st else some st
 else some st
 else some st
def thr (e : GEnv) : Nat → List GSel → GSt → Option GSt
 | 0, _, _ => none
 | _ + 1, [], st => some st
 | n + 1, x :: l, st => bnd (stepG e (thr e n) x st) fun st => thr e n l st
abbrev GArg := GSchema × GDoc × List GMember × Str × List GSel
def grpA : GArg → List PV := fun x => [(.agg [(.slice (List.map encDef x.1.defs) [] false), (.str x.1.query), (.str x.1.mutation)]), (.agg [(.slice (List.map encOp x.2.1.ops) [] false), (.slice (List.map encFrag x.2.1.frags) [] false)]), (.slice (List.map encMember x.2.2.1) [] false), (.str x.2.2.2.1), (.slice (List.map encSel x.2.2.2.2) [] false)]
def grpR : List GGroup → PV := fun r => (encSl encGroup) r
def grpF : GArg → Option (List GGroup) := fun x =>
 if bkSels x.2.2.2.2 + bkDoc x.2.1 + bkSchema x.1 + bkSl bkMember x.2.2.1 ≤ 268435456 then (thr ⟨x.1, x.2.1, x.2.2.1, x.2.2.2.1⟩ (bkSels x.2.2.2.2 + bkDoc x.2.1 + 1) x.2.2.2.2 ([], [])).map (·.1) else none
theorem grpA_inj (a b : GArg) (h : grpA a = grpA b) : a = b := by
 obtain ⟨⟨a1, a2, a3⟩, ⟨a4, a5⟩, a6, a7, a8⟩ := a
 obtain ⟨⟨b1, b2, b3⟩, ⟨b4, b5⟩, b6, b7, b8⟩ := b
 simp only [grpA, List.cons.injEq, PV.agg.injEq, PV.str.injEq, and_true] at h
 obtain ⟨⟨h1, rfl, rfl⟩, ⟨h4, h5⟩, h6, rfl, h8⟩ := h
 have e1 := Ev.encSl_inj inj_GDef a1 b1 h1
 have e4 := Ev.encSl_inj inj_GOp a4 b4 h4
 have e5 := Ev.encSl_inj inj_GFrag a5 b5 h5
 have e6 := Ev.encSl_inj inj_GMember a6 b6 h6
 have e8 := Ev.encSl_inj inj_GSel a8 b8 h8
 subst e1 e4 e5 e6 e8
 rfl
theorem bkS_cons (x : GSel) (l : List GSel) : bkSels (x :: l) = bkSel x + bkSels l := by simp only [bkSels]
theorem bkS_sels (x : GSel) : bkSels x.sels + 1 ≤ bkSel x := by rw [bkSel_eq, bkSels_eq]; simp only [bkSl]; omega
def unmet : List GFrag → List Str → Nat
 | [], _ => 0
 | f :: l, met => (bif met.contains f.name then 0 else bkFrag f) + unmet l met
def tot : List GGroup → Nat
 | [] => 0
 | g :: l => g.sels.length + tot l
theorem tot_put (k : Str) (x : GSel) : ∀ l : List GGroup, tot (putG l k x) = tot l + 1
 | [] => rfl
 | g :: l => by
  simp only [putG]
  split
  ·simp [tot]; omega
  ·simp only [tot, tot_put k x l]; omega
theorem contains_app (met : List Str) (n m : Str) : (met ++ [n]).contains m = (met.contains m || m == n) := by
 rw [Bool.eq_iff_iff, List.contains_iff_mem, List.mem_append, Bool.or_eq_true, List.contains_iff_mem, List.mem_singleton, beq_iff_eq]
theorem unmet_le (n : Str) (met : List Str) : ∀ l : List GFrag, unmet l (met ++ [n]) ≤ unmet l met
 | [] => Nat.le_refl _
 | f :: l => by
  have := unmet_le n met l
  simp only [unmet, contains_app]
  cases met.contains f.name <;> cases f.name == n <;> simp only [Bool.or_true, Bool.or_false, Bool.true_or, cond_true, cond_false] <;> omega
theorem unmet_mem {n : Str} {met : List Str} (hm : met.contains n = false) : ∀ {l : List GFrag} {f : GFrag}, l.find? (fun f => f.name == n) = some f → unmet l (met ++ [n]) + bkFrag f ≤ unmet l met
 | [], f, h => by simp at h
 | g :: l, f, h => by
  rw [List.find?_cons] at h
  simp only [unmet, contains_app]
  cases hg : g.name == n with
  | true =>
   rw [hg] at h
   cases h
   have e : g.name = n := by simpa using hg
   have := unmet_le n met l
   rw [e, hm]
   simp only [Bool.or_true, cond_true, cond_false]; omega
  | false =>
   rw [hg] at h
   have := unmet_mem hm h
   cases met.contains g.name <;> simp only [Bool.or_false, cond_true, cond_false] <;> omega
theorem bkF_sels (f : GFrag) : bkSels f.sels + 1 ≤ bkFrag f := by rw [bkFrag_eq, bkSels_eq]; simp only [bkSl]; omega
theorem thr_ok (e : GEnv) : ∀ (n : Nat) (l : List GSel) (st : GSt), bkSels l + unmet e.d.frags st.2 < n → ∃ st', thr e n l st = some st' ∧ tot st'.1 + unmet e.d.frags st'.2 ≤ tot st.1 + unmet e.d.frags st.2 + bkSels l
 | 0, _, _, h => by omega
 | n + 1, [], st, h => ⟨st, rfl, by simp only [bkSels]; omega⟩
 | n + 1, x :: l, st, h => by
  rw [bkS_cons] at h ⊢
  have hx := bkS_sels x
  have step : ∃ s1, stepG e (thr e n) x st = some s1 ∧ tot s1.1 + unmet e.d.frags s1.2 ≤ tot st.1 + unmet e.d.frags st.2 + bkSel x := by
   unfold stepG
   cases gHolds e.env x.dirs
   ·exact ⟨st, rfl, by omega⟩
   simp only [cond_true]
   cases x.kind == 0
   ·simp only [cond_false]
    cases x.kind == 1
    ·simp only [cond_false]
     cases x.kind == 2
     ·exact ⟨st, rfl, by omega⟩
     ·simp only [cond_true]
      cases gApplies e.s e.typ x.on_
      ·exact ⟨st, rfl, by omega⟩
      ·obtain ⟨s1, h1, h2⟩ := thr_ok e n x.sels st (by omega)
       exact ⟨s1, h1, by omega⟩
    ·simp only [cond_true]
     cases hm : st.2.contains x.name
     ·simp only [cond_false]
      have hle := unmet_le x.name st.2 e.d.frags
      cases hf : (gFrag e.d x.name).2 && gApplies e.s e.typ (gFrag e.d x.name).1.on_
      ·exact ⟨_, rfl, by simp only; omega⟩
      ·simp only [cond_true]
       rw [Bool.and_eq_true] at hf
       have hu : unmet e.d.frags (st.2 ++ [x.name]) + (bkSels (gFrag e.d x.name).1.sels + 1) ≤ unmet e.d.frags st.2 := by
        have h2 := hf.1
        unfold gFrag at h2 ⊢
        cases hff : e.d.frags.find? (fun f => f.name == x.name) with
        | none => rw [hff] at h2; simp at h2
        | some f =>
         have := unmet_mem hm hff
         have := bkF_sels f
         simp only; omega
       obtain ⟨s1, h1, h2⟩ := thr_ok e n (gFrag e.d x.name).1.sels (st.1, st.2 ++ [x.name]) (by simp only; omega)
       exact ⟨s1, h1, by simp only at h2; omega⟩
     ·exact ⟨st, rfl, by omega⟩
   ·exact ⟨_, rfl, by simp only [tot_put]; omega⟩
  obtain ⟨s1, h1, h2⟩ := step
  have hun : unmet e.d.frags s1.2 + bkSels l < n := by
   have : unmet e.d.frags s1.2 ≤ unmet e.d.frags st.2 := thr_step_unmet e n x st s1 h1
   omega
  obtain ⟨s2, h3, h4⟩ := thr_ok e n l s1 (by omega)
  exact ⟨s2, by simp only [thr, h1, bnd]; exact h3, by omega⟩
where
 thr_step_unmet (e : GEnv) (n : Nat) (x : GSel) (st s1 : GSt) (h : stepG e (thr e n) x st = some s1) : unmet e.d.frags s1.2 ≤ unmet e.d.frags st.2 := by
  have key : ∀ (n : Nat) (l : List GSel) (st s1 : GSt), thr e n l st = some s1 → unmet e.d.frags s1.2 ≤ unmet e.d.frags st.2 := by
   intro n
   induction n with
   | zero => intro l st s1 h; simp [thr] at h
   | succ n ih =>
    intro l st s1 h
    cases l with
    | nil => simp only [thr, Option.some.injEq] at h; rw [h]; exact Nat.le_refl _
    | cons x l =>
     simp only [thr] at h
     obtain ⟨s2, h2, h3⟩ := Ev.bnd_some h
     exact Nat.le_trans (ih _ _ _ h3) (aux n x st s2 ih h2)
  exact aux n x st s1 (key n) h
 aux {e : GEnv} (n : Nat) (x : GSel) (st s1 : GSt) (ih : ∀ (l : List GSel) (st s1 : GSt), thr e n l st = some s1 → unmet e.d.frags s1.2 ≤ unmet e.d.frags st.2) (h : stepG e (thr e n) x st = some s1) : unmet e.d.frags s1.2 ≤ unmet e.d.frags st.2 := by
  have hle := unmet_le x.name st.2 e.d.frags
  unfold stepG at h
  cases h1 : gHolds e.env x.dirs <;> rw [h1] at h
  ·cases h; exact Nat.le_refl _
  cases h2 : x.kind == 0 <;> rw [h2] at h
  ·cases h3 : x.kind == 1 <;> rw [h3] at h
   ·cases h4 : x.kind == 2 <;> rw [h4] at h
    ·cases h; exact Nat.le_refl _
    ·cases h5 : gApplies e.s e.typ x.on_ <;> rw [h5] at h
     ·cases h; exact Nat.le_refl _
     ·exact ih _ _ _ h
   ·cases h4 : st.2.contains x.name <;> rw [h4] at h
    ·cases h5 : (gFrag e.d x.name).2 && gApplies e.s e.typ (gFrag e.d x.name).1.on_ <;> rw [h5] at h
     ·cases h; exact hle
     ·exact Nat.le_trans (ih _ _ _ h) hle
    ·cases h; exact Nat.le_refl _
  ·cases h; exact Nat.le_refl _
def MTL : List (Nat × Hints) := [(3, { takes := [], gens := [], keeps := [(5, [2, 3, 4, 5, 6, 10, 11, 12])], own := false, drop := true }),
 (21, { takes := [], gens := [], keeps := [], own := false, drop := true }),
 (22, { takes := [], gens := [], keeps := [], own := false, drop := true }),
 (47, { takes := [], gens := [], keeps := [], own := false, drop := true }),
 (46, { takes := [], gens := [16], keeps := [(2, [0, 1, 4, 7, 8])], own := false, drop := true }),
 (23, { takes := [], gens := [10], keeps := [], own := false, drop := true }),
 (26, { takes := [], gens := [], keeps := [], own := false, drop := true }),
 (31, { takes := [], gens := [], keeps := [], own := false, drop := true }),
 (48, { takes := [], gens := [], keeps := [(2, [0, 1, 4, 5])], own := false, drop := true }),
 (72, { takes := [], gens := [], keeps := [(2, [1, 2, 4, 5, 6])], own := false, drop := true }),
 (11, { takes := [], gens := [], keeps := [], own := false, drop := true }),
 (18, { takes := [], gens := [], keeps := [], own := false, drop := true }),
 (15, { takes := [], gens := [], keeps := [], own := false, drop := true }),
 (13, { takes := [], gens := [], keeps := [], own := false, drop := true }),
 (12, { takes := [], gens := [], keeps := [(3, [1, 3, 4]), (7, [1, 3, 5])], own := false, drop := true }),
 (14, { takes := [28], gens := [], keeps := [(3, [0, 3, 4])], own := false, drop := true }),
 (16, { takes := [], gens := [], keeps := [(3, [0, 1, 4, 5, 6, 7])], own := false, drop := true }),
 (19, { takes := [], gens := [], keeps := [], own := false, drop := true }),
 (17, { takes := [], gens := [], keeps := [(4, [0, 1, 4, 5])], own := false, drop := true }),
 (20, { takes := [], gens := [], keeps := [(4, [0, 1, 4, 5])], own := false, drop := true }),
 (45, { takes := [44, 47, 62, 64], gens := [], keeps := [(10, [1, 7, 29, 30, 31]), (17, [2, 7, 52, 53, 54])], own := false, drop := true }),
 (44, { takes := [], gens := [], keeps := [], own := false, drop := true }),
 (49, { takes := [24, 60, 93], gens := [], keeps := [(8, [1, 2, 7, 8]), (15, [2, 5, 7, 10])], own := false, drop := true }),
 (27, { takes := [], gens := [], keeps := [(3, [1, 3, 4]), (8, [1, 3, 4, 5, 6])], own := false, drop := true }),
 (28, { takes := [], gens := [], keeps := [(3, [1, 3, 4]), (7, [1, 3, 4, 5]), (11, [1, 3, 6])], own := false, drop := true }),
 (67, { takes := [], gens := [], keeps := [], own := false, drop := true }),
 (66, { takes := [], gens := [16], keeps := [(2, [0, 1, 4, 7, 8])], own := false, drop := true }),
 (38, { takes := [], gens := [11], keeps := [], own := false, drop := true }),
 (36, { takes := [11], gens := [], keeps := [(3, [0, 3, 4])], own := false, drop := true }),
 (37, { takes := [11], gens := [], keeps := [(3, [0, 3, 4])], own := false, drop := true }),
 (39, { takes := [], gens := [], keeps := [], own := false, drop := true }),
 (42, { takes := [], gens := [], keeps := [(4, [0, 1, 4, 5])], own := false, drop := true }),
 (43, { takes := [], gens := [], keeps := [(4, [0, 1, 4, 5])], own := false, drop := true }),
 (74, { takes := [], gens := [], keeps := [(4, [1, 4, 5, 13, 14, 15])], own := false, drop := true }),
 (75, { takes := [8, 9], gens := [], keeps := [], own := true, drop := true }),
 (76, { takes := [], gens := [], keeps := [], own := false, drop := true }),
 (73, { takes := [], gens := [], keeps := [(2, [0, 1, 4, 7, 8])], own := false, drop := true }),
 (77, { takes := [], gens := [], keeps := [(4, [1, 2, 4, 5, 6])], own := false, drop := true }),
 (78, { takes := [], gens := [], keeps := [], own := false, drop := true }),
 (50, { takes := [], gens := [], keeps := [(3, [0, 3, 4])], own := false, drop := true }),
 (51, { takes := [], gens := [], keeps := [(3, [0, 3, 4])], own := false, drop := true }),
 (52, { takes := [], gens := [], keeps := [(3, [0, 3, 4])], own := false, drop := true }),
 (53, { takes := [], gens := [], keeps := [(3, [0, 3, 4])], own := false, drop := true }),
 (54, { takes := [], gens := [], keeps := [(3, [0, 3, 4])], own := false, drop := true }),
 (68, { takes := [], gens := [], keeps := [], own := false, drop := true }),
 (65, { takes := [12], gens := [], keeps := [(3, [1, 2, 3, 4])], own := false, drop := true }),
 (59, { takes := [], gens := [], keeps := [(2, [0, 1, 4, 5, 6])], own := false, drop := true }),
 (60, { takes := [], gens := [], keeps := [(4, [2, 3, 4, 5])], own := false, drop := true }),
 (89, { takes := [], gens := [], keeps := [], own := false, drop := true }),
 (90, { takes := [], gens := [], keeps := [], own := false, drop := true }),
 (91, { takes := [], gens := [], keeps := [], own := false, drop := true }),
 (86, { takes := [], gens := [], keeps := [], own := false, drop := true }),
 (57, { takes := [], gens := [], keeps := [(2, [0, 4, 5, 8, 9, 10])], own := false, drop := true }),
 (98, { takes := [], gens := [], keeps := [(2, [0, 1, 4, 7, 8])], own := false, drop := true })]
def MT (f : FuncId) : Hints := match Go.Ev.look MTL f with | some m => m | none => {}
noncomputable def XT : Ext := fun f => Go.Ev.look [(18, (xSelf Try.prog (fun _ _ => none) 18 grpA grpR grpF)), (19, (xSelf Try.prog (fun _ _ => none) 19 grpA grpR grpF))] f
noncomputable def O : Orc := OL Try.prog MT XT
def seinelaw25_CollectSaysE : Bool → PV := fun r => PV.bool r
theorem seinelaw25_CollectSaysEj (a b : Bool) (h : seinelaw25_CollectSaysE a = seinelaw25_CollectSaysE b) : a = b := Ev.bool_inj a b h
noncomputable def seinelaw25_CollectSays (s : GSchema) (d : GDoc) (env : List GMember) (typ : Str) (l0 : List GSel) : Option Bool := tO O 3 [(.agg [(.slice (List.map encDef s.defs) [] false), (.str s.query), (.str s.mutation)]), (.agg [(.slice (List.map encOp d.ops) [] false), (.slice (List.map encFrag d.frags) [] false)]), (.slice (List.map encMember env) [] false), (.str typ), (.slice (List.map encSel l0) [] false)] [] fun r => (seinelaw25_CollectSaysE r, [])
theorem seinelaw25_CollectSays_spec {s : GSchema} {d : GDoc} {env : List GMember} {typ : Str} {l0 : List GSel} {r : Bool} (h : seinelaw25_CollectSays s d env typ l0 = some r) : O 3 [(.agg [(.slice (List.map encDef s.defs) [] false), (.str s.query), (.str s.mutation)]), (.agg [(.slice (List.map encOp d.ops) [] false), (.slice (List.map encFrag d.frags) [] false)]), (.slice (List.map encMember env) [] false), (.str typ), (.slice (List.map encSel l0) [] false)] [] = some (seinelaw25_CollectSaysE r, []) := tO_spec (enc := fun r => (seinelaw25_CollectSaysE r, [])) h
def collect_AppliesE : Bool → PV := fun r => PV.bool r
theorem collect_AppliesEj (a b : Bool) (h : collect_AppliesE a = collect_AppliesE b) : a = b := Ev.bool_inj a b h
noncomputable def collect_Applies (s : GSchema) (typ : Str) (on0 : Str) : Option Bool := tO O 22 [(.agg [(.slice (List.map encDef s.defs) [] false), (.str s.query), (.str s.mutation)]), (.str typ), (.str on0)] [] fun r => (collect_AppliesE r, [])
theorem collect_Applies_spec {s : GSchema} {typ : Str} {on0 : Str} {r : Bool} (h : collect_Applies s typ on0 = some r) : O 22 [(.agg [(.slice (List.map encDef s.defs) [] false), (.str s.query), (.str s.mutation)]), (.str typ), (.str on0)] [] = some (collect_AppliesE r, []) := tO_spec (enc := fun r => (collect_AppliesE r, [])) h
def graph_Frag_1E : Bool → PV := fun r => PV.bool r
def graph_Frag_1U (f : GFrag) (u0_4 : Str) (u0_40 : Str) (u0_3 : Str) (u0_2 : GDoc) : Bool → UP := fun r => [[(4, [(.str u0_4), (.str u0_40), (.slice [] [] true), (.slice [] [] true)]), (3, [(.str u0_3)]), (2, [(.slice (List.map encOp u0_2.ops) [] false), (.slice (List.map encFrag u0_2.frags) [] false)])]]
theorem graph_Frag_1Ej (a b : Bool) (h : graph_Frag_1E a = graph_Frag_1E b) : a = b := Ev.bool_inj a b h
noncomputable def graph_Frag_1 (f : GFrag) (u0_4 : Str) (u0_40 : Str) (u0_3 : Str) (u0_2 : GDoc) : Option Bool := tO O 47 [(.agg [(.str f.name), (.str f.on_), (.slice (List.map encDir f.dirs) [] false), (.slice (List.map encSel f.sels) [] false)]), (.ptr 1 3 0)] [[(4, [(.str u0_4), (.str u0_40), (.slice [] [] true), (.slice [] [] true)]), (3, [(.str u0_3)]), (2, [(.slice (List.map encOp u0_2.ops) [] false), (.slice (List.map encFrag u0_2.frags) [] false)])]] fun r => (graph_Frag_1E r, (graph_Frag_1U f u0_4 u0_40 u0_3 u0_2 r))
theorem graph_Frag_1_spec {f : GFrag} {u0_4 : Str} {u0_40 : Str} {u0_3 : Str} {u0_2 : GDoc} {r : Bool} (h : graph_Frag_1 f u0_4 u0_40 u0_3 u0_2 = some r) : O 47 [(.agg [(.str f.name), (.str f.on_), (.slice (List.map encDir f.dirs) [] false), (.slice (List.map encSel f.sels) [] false)]), (.ptr 1 3 0)] [[(4, [(.str u0_4), (.str u0_40), (.slice [] [] true), (.slice [] [] true)]), (3, [(.str u0_3)]), (2, [(.slice (List.map encOp u0_2.ops) [] false), (.slice (List.map encFrag u0_2.frags) [] false)])]] = some (graph_Frag_1E r, (graph_Frag_1U f u0_4 u0_40 u0_3 u0_2 r)) := tO_spec (enc := fun r => (graph_Frag_1E r, (graph_Frag_1U f u0_4 u0_40 u0_3 u0_2 r))) h
def slices_IndexFunc_FragE : Int → PV := fun r => (PV.int .i64) r
def slices_IndexFunc_FragU (s : List GFrag) (u0_4 : Str) (u0_40 : Str) (u0_3 : Str) (u0_2 : GDoc) : Int → UP := fun r => [[(4, [(.str u0_4), (.str u0_40), (.slice [] [] true), (.slice [] [] true)]), (3, [(.str u0_3)]), (2, [(.slice (List.map encOp u0_2.ops) [] false), (.slice (List.map encFrag u0_2.frags) [] false)])]]
theorem slices_IndexFunc_FragEj (a b : Int) (h : slices_IndexFunc_FragE a = slices_IndexFunc_FragE b) : a = b := (Ev.int_inj _) a b h
noncomputable def slices_IndexFunc_Frag (s : List GFrag) (u0_4 : Str) (u0_40 : Str) (u0_3 : Str) (u0_2 : GDoc) : Option Int := tO O 46 [(.slice (List.map encFrag s) [] false), (.func (.func 47) [] [(.ptr 1 3 0)])] [[(4, [(.str u0_4), (.str u0_40), (.slice [] [] true), (.slice [] [] true)]), (3, [(.str u0_3)]), (2, [(.slice (List.map encOp u0_2.ops) [] false), (.slice (List.map encFrag u0_2.frags) [] false)])]] fun r => (slices_IndexFunc_FragE r, (slices_IndexFunc_FragU s u0_4 u0_40 u0_3 u0_2 r))
theorem slices_IndexFunc_Frag_spec {s : List GFrag} {u0_4 : Str} {u0_40 : Str} {u0_3 : Str} {u0_2 : GDoc} {r : Int} (h : slices_IndexFunc_Frag s u0_4 u0_40 u0_3 u0_2 = some r) : O 46 [(.slice (List.map encFrag s) [] false), (.func (.func 47) [] [(.ptr 1 3 0)])] [[(4, [(.str u0_4), (.str u0_40), (.slice [] [] true), (.slice [] [] true)]), (3, [(.str u0_3)]), (2, [(.slice (List.map encOp u0_2.ops) [] false), (.slice (List.map encFrag u0_2.frags) [] false)])]] = some (slices_IndexFunc_FragE r, (slices_IndexFunc_FragU s u0_4 u0_40 u0_3 u0_2 r)) := tO_spec (enc := fun r => (slices_IndexFunc_FragE r, (slices_IndexFunc_FragU s u0_4 u0_40 u0_3 u0_2 r))) h
def graph_FragE : (GFrag × Bool) → PV := fun r => .tuple [encFrag r.1, PV.bool r.2]
theorem graph_FragEj (a b : GFrag × Bool) (h : graph_FragE a = graph_FragE b) : a = b := by
 simp only [graph_FragE, PV.tuple.injEq, List.cons.injEq, and_true] at h
 exact Prod.ext (inj_GFrag _ _ h.1) (Ev.bool_inj _ _ h.2)
noncomputable def graph_Frag (d : GDoc) (name : Str) : Option (GFrag × Bool) := tO O 23 [(.agg [(.slice (List.map encOp d.ops) [] false), (.slice (List.map encFrag d.frags) [] false)]), (.str name)] [] fun r => (graph_FragE r, [])
theorem graph_Frag_spec {d : GDoc} {name : Str} {r : GFrag × Bool} (h : graph_Frag d name = some r) : O 23 [(.agg [(.slice (List.map encOp d.ops) [] false), (.slice (List.map encFrag d.frags) [] false)]), (.str name)] [] = some (graph_FragE r, []) := tO_spec (enc := fun r => (graph_FragE r, [])) h
def seineref23_AppliesE : Bool → PV := fun r => PV.bool r
theorem seineref23_AppliesEj (a b : Bool) (h : seineref23_AppliesE a = seineref23_AppliesE b) : a = b := Ev.bool_inj a b h
noncomputable def seineref23_Applies (s : GSchema) (typ : Str) (on0 : Str) : Option Bool := tO O 26 [(.agg [(.slice (List.map encDef s.defs) [] false), (.str s.query), (.str s.mutation)]), (.str typ), (.str on0)] [] fun r => (seineref23_AppliesE r, [])
theorem seineref23_Applies_spec {s : GSchema} {typ : Str} {on0 : Str} {r : Bool} (h : seineref23_Applies s typ on0 = some r) : O 26 [(.agg [(.slice (List.map encDef s.defs) [] false), (.str s.query), (.str s.mutation)]), (.str typ), (.str on0)] [] = some (seineref23_AppliesE r, []) := tO_spec (enc := fun r => (seineref23_AppliesE r, [])) h
def seineref1_HasE : Bool → PV := fun r => PV.bool r
theorem seineref1_HasEj (a b : Bool) (h : seineref1_HasE a = seineref1_HasE b) : a = b := Ev.bool_inj a b h
noncomputable def seineref1_Has (l0 : List Str) (s : Str) : Option Bool := tO O 48 [(.slice (List.map PV.str l0) [] false), (.str s)] [] fun r => (seineref1_HasE r, [])
theorem seineref1_Has_spec {l0 : List Str} {s : Str} {r : Bool} (h : seineref1_Has l0 s = some r) : O 48 [(.slice (List.map PV.str l0) [] false), (.str s)] [] = some (seineref1_HasE r, []) := tO_spec (enc := fun r => (seineref1_HasE r, [])) h
def seineref13_FragE : (GFrag × Bool) → PV := fun r => .tuple [encFrag r.1, PV.bool r.2]
theorem seineref13_FragEj (a b : GFrag × Bool) (h : seineref13_FragE a = seineref13_FragE b) : a = b := by
 simp only [seineref13_FragE, PV.tuple.injEq, List.cons.injEq, and_true] at h
 exact Prod.ext (inj_GFrag _ _ h.1) (Ev.bool_inj _ _ h.2)
noncomputable def seineref13_Frag (d : GDoc) (name : Str) : Option (GFrag × Bool) := tO O 72 [(.agg [(.slice (List.map encOp d.ops) [] false), (.slice (List.map encFrag d.frags) [] false)]), (.str name)] [] fun r => (seineref13_FragE r, [])
theorem seineref13_Frag_spec {d : GDoc} {name : Str} {r : GFrag × Bool} (h : seineref13_Frag d name = some r) : O 72 [(.agg [(.slice (List.map encOp d.ops) [] false), (.slice (List.map encFrag d.frags) [] false)]), (.str name)] [] = some (seineref13_FragE r, []) := tO_spec (enc := fun r => (seineref13_FragE r, [])) h
def seinelaw25_lightE : Bool → PV := fun r => PV.bool r
theorem seinelaw25_lightEj (a b : Bool) (h : seinelaw25_lightE a = seinelaw25_lightE b) : a = b := Ev.bool_inj a b h
noncomputable def seinelaw25_light (s : GSchema) (d : GDoc) (l0 : List GSel) : Option Bool := tO O 11 [(.agg [(.slice (List.map encDef s.defs) [] false), (.str s.query), (.str s.mutation)]), (.agg [(.slice (List.map encOp d.ops) [] false), (.slice (List.map encFrag d.frags) [] false)]), (.slice (List.map encSel l0) [] false)] [] fun r => (seinelaw25_lightE r, [])
theorem seinelaw25_light_spec {s : GSchema} {d : GDoc} {l0 : List GSel} {r : Bool} (h : seinelaw25_light s d l0 = some r) : O 11 [(.agg [(.slice (List.map encDef s.defs) [] false), (.str s.query), (.str s.mutation)]), (.agg [(.slice (List.map encOp d.ops) [] false), (.slice (List.map encFrag d.frags) [] false)]), (.slice (List.map encSel l0) [] false)] [] = some (seinelaw25_lightE r, []) := tO_spec (enc := fun r => (seinelaw25_lightE r, [])) h
def collect_Groups_i1E : (List GGroup) → PV := fun r => (encSl encGroup) r
theorem collect_Groups_i1Ej (a b : List GGroup) (h : collect_Groups_i1E a = collect_Groups_i1E b) : a = b := (Ev.encSl_inj inj_GGroup) a b h
noncomputable def collect_Groups_i1 (s : GSchema) (d : GDoc) (typ : Str) (l0 : List GSel) : Option (List GGroup) := tO O 18 [(.agg [(.slice (List.map encDef s.defs) [] false), (.str s.query), (.str s.mutation)]), (.agg [(.slice (List.map encOp d.ops) [] false), (.slice (List.map encFrag d.frags) [] false)]), (.slice [] [] true), (.str typ), (.slice (List.map encSel l0) [] false)] [] fun r => (collect_Groups_i1E r, [])
theorem collect_Groups_i1_spec {s : GSchema} {d : GDoc} {typ : Str} {l0 : List GSel} {r : List GGroup} (h : collect_Groups_i1 s d typ l0 = some r) : O 18 [(.agg [(.slice (List.map encDef s.defs) [] false), (.str s.query), (.str s.mutation)]), (.agg [(.slice (List.map encOp d.ops) [] false), (.slice (List.map encFrag d.frags) [] false)]), (.slice [] [] true), (.str typ), (.slice (List.map encSel l0) [] false)] [] = some (collect_Groups_i1E r, []) := tO_spec (enc := fun r => (collect_Groups_i1E r, [])) h
def collect_Holds_i1E : Bool → PV := fun r => PV.bool r
theorem collect_Holds_i1Ej (a b : Bool) (h : collect_Holds_i1E a = collect_Holds_i1E b) : a = b := Ev.bool_inj a b h
noncomputable def collect_Holds_i1 : Option Bool := tO O 15 [(.slice [] [] true), (.slice [] [] true)] [] fun r => (collect_Holds_i1E r, [])
theorem collect_Holds_i1_spec {r : Bool} (h : collect_Holds_i1 = some r) : O 15 [(.slice [] [] true), (.slice [] [] true)] [] = some (collect_Holds_i1E r, []) := tO_spec (enc := fun r => (collect_Holds_i1E r, [])) h
def seinelaw25_awakeE : Bool → PV := fun r => PV.bool r
theorem seinelaw25_awakeEj (a b : Bool) (h : seinelaw25_awakeE a = seinelaw25_awakeE b) : a = b := Ev.bool_inj a b h
noncomputable def seinelaw25_awake : Option Bool := tO O 13 [] [] fun r => (seinelaw25_awakeE r, [])
theorem seinelaw25_awake_spec {r : Bool} (h : seinelaw25_awake = some r) : O 13 [] [] = some (seinelaw25_awakeE r, []) := tO_spec (enc := fun r => (seinelaw25_awakeE r, [])) h
def seinekeep_SizeE : Int → PV := fun r => (PV.int .i64) r
theorem seinekeep_SizeEj (a b : Int) (h : seinekeep_SizeE a = seinekeep_SizeE b) : a = b := (Ev.int_inj _) a b h
noncomputable def seinekeep_Size (v0 : GValue) : Option Int := tO O 12 [(.agg [(.int .i64 v0.kind), (.int .i64 v0.n), (.str v0.s), (.slice (List.map encValue v0.l) [] false), (.slice (List.map encMember v0.m) [] false)])] [] fun r => (seinekeep_SizeE r, [])
theorem seinekeep_Size_spec {v0 : GValue} {r : Int} (h : seinekeep_Size v0 = some r) : O 12 [(.agg [(.int .i64 v0.kind), (.int .i64 v0.n), (.str v0.s), (.slice (List.map encValue v0.l) [] false), (.slice (List.map encMember v0.m) [] false)])] [] = some (seinekeep_SizeE r, []) := tO_spec (enc := fun r => (seinekeep_SizeE r, [])) h
def seinekeep_SelsE : (List GSel) → PV := fun r => (encSl encSel) r
theorem seinekeep_SelsEj (a b : List GSel) (h : seinekeep_SelsE a = seinekeep_SelsE b) : a = b := (Ev.encSl_inj inj_GSel) a b h
noncomputable def seinekeep_Sels (l0 : List GSel) : Option (List GSel) := tO O 14 [(.slice (List.map encSel l0) [] false)] [] fun r => (seinekeep_SelsE r, [])
theorem seinekeep_Sels_spec {l0 : List GSel} {r : List GSel} (h : seinekeep_Sels l0 = some r) : O 14 [(.slice (List.map encSel l0) [] false)] [] = some (seinekeep_SelsE r, []) := tO_spec (enc := fun r => (seinekeep_SelsE r, [])) h
def collect_HoldsE : Bool → PV := fun r => PV.bool r
theorem collect_HoldsEj (a b : Bool) (h : collect_HoldsE a = collect_HoldsE b) : a = b := Ev.bool_inj a b h
noncomputable def collect_Holds (env : List GMember) (dirs : List GDir) : Option Bool := tO O 15 [(.slice (List.map encMember env) [] false), (.slice (List.map encDir dirs) [] false)] [] fun r => (collect_HoldsE r, [])
theorem collect_Holds_spec {env : List GMember} {dirs : List GDir} {r : Bool} (h : collect_Holds env dirs = some r) : O 15 [(.slice (List.map encMember env) [] false), (.slice (List.map encDir dirs) [] false)] [] = some (collect_HoldsE r, []) := tO_spec (enc := fun r => (collect_HoldsE r, [])) h
def seineref23_HoldsE : Bool → PV := fun r => PV.bool r
theorem seineref23_HoldsEj (a b : Bool) (h : seineref23_HoldsE a = seineref23_HoldsE b) : a = b := Ev.bool_inj a b h
noncomputable def seineref23_Holds (env : List GMember) (dirs : List GDir) : Option Bool := tO O 16 [(.slice (List.map encMember env) [] false), (.slice (List.map encDir dirs) [] false)] [] fun r => (seineref23_HoldsE r, [])
theorem seineref23_Holds_spec {env : List GMember} {dirs : List GDir} {r : Bool} (h : seineref23_Holds env dirs = some r) : O 16 [(.slice (List.map encMember env) [] false), (.slice (List.map encDir dirs) [] false)] [] = some (seineref23_HoldsE r, []) := tO_spec (enc := fun r => (seineref23_HoldsE r, [])) h
def collect_GroupsE : (List GGroup) → PV := fun r => (encSl encGroup) r
theorem collect_GroupsEj (a b : List GGroup) (h : collect_GroupsE a = collect_GroupsE b) : a = b := (Ev.encSl_inj inj_GGroup) a b h
noncomputable def collect_Groups (s : GSchema) (d : GDoc) (env : List GMember) (typ : Str) (l0 : List GSel) : Option (List GGroup) := tO O 18 [(.agg [(.slice (List.map encDef s.defs) [] false), (.str s.query), (.str s.mutation)]), (.agg [(.slice (List.map encOp d.ops) [] false), (.slice (List.map encFrag d.frags) [] false)]), (.slice (List.map encMember env) [] false), (.str typ), (.slice (List.map encSel l0) [] false)] [] fun r => (collect_GroupsE r, [])
theorem collect_Groups_spec {s : GSchema} {d : GDoc} {env : List GMember} {typ : Str} {l0 : List GSel} {r : List GGroup} (h : collect_Groups s d env typ l0 = some r) : O 18 [(.agg [(.slice (List.map encDef s.defs) [] false), (.str s.query), (.str s.mutation)]), (.agg [(.slice (List.map encOp d.ops) [] false), (.slice (List.map encFrag d.frags) [] false)]), (.slice (List.map encMember env) [] false), (.str typ), (.slice (List.map encSel l0) [] false)] [] = some (collect_GroupsE r, []) := tO_spec (enc := fun r => (collect_GroupsE r, [])) h
def seineref23_GroupsE : (List GGroup) → PV := fun r => (encSl encGroup) r
theorem seineref23_GroupsEj (a b : List GGroup) (h : seineref23_GroupsE a = seineref23_GroupsE b) : a = b := (Ev.encSl_inj inj_GGroup) a b h
noncomputable def seineref23_Groups (s : GSchema) (d : GDoc) (env : List GMember) (typ : Str) (l0 : List GSel) : Option (List GGroup) := tO O 19 [(.agg [(.slice (List.map encDef s.defs) [] false), (.str s.query), (.str s.mutation)]), (.agg [(.slice (List.map encOp d.ops) [] false), (.slice (List.map encFrag d.frags) [] false)]), (.slice (List.map encMember env) [] false), (.str typ), (.slice (List.map encSel l0) [] false)] [] fun r => (seineref23_GroupsE r, [])
theorem seineref23_Groups_spec {s : GSchema} {d : GDoc} {env : List GMember} {typ : Str} {l0 : List GSel} {r : List GGroup} (h : seineref23_Groups s d env typ l0 = some r) : O 19 [(.agg [(.slice (List.map encDef s.defs) [] false), (.str s.query), (.str s.mutation)]), (.agg [(.slice (List.map encOp d.ops) [] false), (.slice (List.map encFrag d.frags) [] false)]), (.slice (List.map encMember env) [] false), (.str typ), (.slice (List.map encSel l0) [] false)] [] = some (seineref23_GroupsE r, []) := tO_spec (enc := fun r => (seineref23_GroupsE r, [])) h
def seinelaw25_sameGroupsE : Bool → PV := fun r => PV.bool r
theorem seinelaw25_sameGroupsEj (a b : Bool) (h : seinelaw25_sameGroupsE a = seinelaw25_sameGroupsE b) : a = b := Ev.bool_inj a b h
noncomputable def seinelaw25_sameGroups (a : List GGroup) (b : List GGroup) : Option Bool := tO O 17 [(.slice (List.map encGroup a) [] false), (.slice (List.map encGroup b) [] false)] [] fun r => (seinelaw25_sameGroupsE r, [])
theorem seinelaw25_sameGroups_spec {a : List GGroup} {b : List GGroup} {r : Bool} (h : seinelaw25_sameGroups a b = some r) : O 17 [(.slice (List.map encGroup a) [] false), (.slice (List.map encGroup b) [] false)] [] = some (seinelaw25_sameGroupsE r, []) := tO_spec (enc := fun r => (seinelaw25_sameGroupsE r, [])) h
def seineref6_SameSelsE : Bool → PV := fun r => PV.bool r
theorem seineref6_SameSelsEj (a b : Bool) (h : seineref6_SameSelsE a = seineref6_SameSelsE b) : a = b := Ev.bool_inj a b h
noncomputable def seineref6_SameSels (a : List GSel) (b : List GSel) : Option Bool := tO O 20 [(.slice (List.map encSel a) [] false), (.slice (List.map encSel b) [] false)] [] fun r => (seineref6_SameSelsE r, [])
theorem seineref6_SameSels_spec {a : List GSel} {b : List GSel} {r : Bool} (h : seineref6_SameSels a b = some r) : O 20 [(.slice (List.map encSel a) [] false), (.slice (List.map encSel b) [] false)] [] = some (seineref6_SameSelsE r, []) := tO_spec (enc := fun r => (seineref6_SameSelsE r, [])) h
def defs_PossibleE : (List Str) → PV := fun r => (encSl PV.str) r
theorem defs_PossibleEj (a b : List Str) (h : defs_PossibleE a = defs_PossibleE b) : a = b := (Ev.encSl_inj Ev.str_inj) a b h
noncomputable def defs_Possible (s : GSchema) (name : Str) : Option (List Str) := tO O 45 [(.agg [(.slice (List.map encDef s.defs) [] false), (.str s.query), (.str s.mutation)]), (.str name)] [] fun r => (defs_PossibleE r, [])
theorem defs_Possible_spec {s : GSchema} {name : Str} {r : List Str} (h : defs_Possible s name = some r) : O 45 [(.agg [(.slice (List.map encDef s.defs) [] false), (.str s.query), (.str s.mutation)]), (.str name)] [] = some (defs_PossibleE r, []) := tO_spec (enc := fun r => (defs_PossibleE r, [])) h
def slices_Contains_string_stringE : Bool → PV := fun r => PV.bool r
theorem slices_Contains_string_stringEj (a b : Bool) (h : slices_Contains_string_stringE a = slices_Contains_string_stringE b) : a = b := Ev.bool_inj a b h
noncomputable def slices_Contains_string_string (s : List Str) (v0 : Str) : Option Bool := tO O 44 [(.slice (List.map PV.str s) [] false), (.str v0)] [] fun r => (slices_Contains_string_stringE r, [])
theorem slices_Contains_string_string_spec {s : List Str} {v0 : Str} {r : Bool} (h : slices_Contains_string_string s v0 = some r) : O 44 [(.slice (List.map PV.str s) [] false), (.str v0)] [] = some (slices_Contains_string_stringE r, []) := tO_spec (enc := fun r => (slices_Contains_string_stringE r, [])) h
def seineref9_PossibleE : (List Str) → PV := fun r => (encSl PV.str) r
theorem seineref9_PossibleEj (a b : List Str) (h : seineref9_PossibleE a = seineref9_PossibleE b) : a = b := (Ev.encSl_inj Ev.str_inj) a b h
noncomputable def seineref9_Possible (s : GSchema) (name : Str) : Option (List Str) := tO O 49 [(.agg [(.slice (List.map encDef s.defs) [] false), (.str s.query), (.str s.mutation)]), (.str name)] [] fun r => (seineref9_PossibleE r, [])
theorem seineref9_Possible_spec {s : GSchema} {name : Str} {r : List Str} (h : seineref9_Possible s name = some r) : O 49 [(.agg [(.slice (List.map encDef s.defs) [] false), (.str s.query), (.str s.mutation)]), (.str name)] [] = some (seineref9_PossibleE r, []) := tO_spec (enc := fun r => (seineref9_PossibleE r, [])) h
def seinelaw8_LightE : Bool → PV := fun r => PV.bool r
theorem seinelaw8_LightEj (a b : Bool) (h : seinelaw8_LightE a = seinelaw8_LightE b) : a = b := Ev.bool_inj a b h
noncomputable def seinelaw8_Light (s : GSchema) : Option Bool := tO O 27 [(.agg [(.slice (List.map encDef s.defs) [] false), (.str s.query), (.str s.mutation)])] [] fun r => (seinelaw8_LightE r, [])
theorem seinelaw8_Light_spec {s : GSchema} {r : Bool} (h : seinelaw8_Light s = some r) : O 27 [(.agg [(.slice (List.map encDef s.defs) [] false), (.str s.query), (.str s.mutation)])] [] = some (seinelaw8_LightE r, []) := tO_spec (enc := fun r => (seinelaw8_LightE r, [])) h
def seinelaw7_LightE : Bool → PV := fun r => PV.bool r
theorem seinelaw7_LightEj (a b : Bool) (h : seinelaw7_LightE a = seinelaw7_LightE b) : a = b := Ev.bool_inj a b h
noncomputable def seinelaw7_Light (d : GDoc) : Option Bool := tO O 28 [(.agg [(.slice (List.map encOp d.ops) [] false), (.slice (List.map encFrag d.frags) [] false)])] [] fun r => (seinelaw7_LightE r, [])
theorem seinelaw7_Light_spec {d : GDoc} {r : Bool} (h : seinelaw7_Light d = some r) : O 28 [(.agg [(.slice (List.map encOp d.ops) [] false), (.slice (List.map encFrag d.frags) [] false)])] [] = some (seinelaw7_LightE r, []) := tO_spec (enc := fun r => (seinelaw7_LightE r, [])) h
def collect_first_1E : Bool → PV := fun r => PV.bool r
def collect_first_1U (d : GDir) (u0_4 : Str) : Bool → UP := fun r => [[(4, [(.str u0_4)])]]
theorem collect_first_1Ej (a b : Bool) (h : collect_first_1E a = collect_first_1E b) : a = b := Ev.bool_inj a b h
noncomputable def collect_first_1 (d : GDir) (u0_4 : Str) : Option Bool := tO O 67 [(.agg [(.str d.name), (.slice (List.map encMember d.args) [] false)]), (.ptr 1 4 0)] [[(4, [(.str u0_4)])]] fun r => (collect_first_1E r, (collect_first_1U d u0_4 r))
theorem collect_first_1_spec {d : GDir} {u0_4 : Str} {r : Bool} (h : collect_first_1 d u0_4 = some r) : O 67 [(.agg [(.str d.name), (.slice (List.map encMember d.args) [] false)]), (.ptr 1 4 0)] [[(4, [(.str u0_4)])]] = some (collect_first_1E r, (collect_first_1U d u0_4 r)) := tO_spec (enc := fun r => (collect_first_1E r, (collect_first_1U d u0_4 r))) h
def slices_IndexFunc_DirE : Int → PV := fun r => (PV.int .i64) r
def slices_IndexFunc_DirU (s : List GDir) (u0_4 : Str) : Int → UP := fun r => [[(4, [(.str u0_4)])]]
theorem slices_IndexFunc_DirEj (a b : Int) (h : slices_IndexFunc_DirE a = slices_IndexFunc_DirE b) : a = b := (Ev.int_inj _) a b h
noncomputable def slices_IndexFunc_Dir (s : List GDir) (u0_4 : Str) : Option Int := tO O 66 [(.slice (List.map encDir s) [] false), (.func (.func 67) [] [(.ptr 1 4 0)])] [[(4, [(.str u0_4)])]] fun r => (slices_IndexFunc_DirE r, (slices_IndexFunc_DirU s u0_4 r))
theorem slices_IndexFunc_Dir_spec {s : List GDir} {u0_4 : Str} {r : Int} (h : slices_IndexFunc_Dir s u0_4 = some r) : O 66 [(.slice (List.map encDir s) [] false), (.func (.func 67) [] [(.ptr 1 4 0)])] [[(4, [(.str u0_4)])]] = some (slices_IndexFunc_DirE r, (slices_IndexFunc_DirU s u0_4 r)) := tO_spec (enc := fun r => (slices_IndexFunc_DirE r, (slices_IndexFunc_DirU s u0_4 r))) h
def collect_firstE : (Bool × Bool) → PV := fun r => .tuple [PV.bool r.1, PV.bool r.2]
theorem collect_firstEj (a b : Bool × Bool) (h : collect_firstE a = collect_firstE b) : a = b := by
 simp only [collect_firstE, PV.tuple.injEq, List.cons.injEq, and_true] at h
 exact Prod.ext (Ev.bool_inj _ _ h.1) (Ev.bool_inj _ _ h.2)
noncomputable def collect_first (env : List GMember) (name : Str) (dirs : List GDir) : Option (Bool × Bool) := tO O 38 [(.slice (List.map encMember env) [] false), (.str name), (.slice (List.map encDir dirs) [] false)] [] fun r => (collect_firstE r, [])
theorem collect_first_spec {env : List GMember} {name : Str} {dirs : List GDir} {r : Bool × Bool} (h : collect_first env name dirs = some r) : O 38 [(.slice (List.map encMember env) [] false), (.str name), (.slice (List.map encDir dirs) [] false)] [] = some (collect_firstE r, []) := tO_spec (enc := fun r => (collect_firstE r, [])) h
def seinekeep_MembersE : (List GMember) → PV := fun r => (encSl encMember) r
theorem seinekeep_MembersEj (a b : List GMember) (h : seinekeep_MembersE a = seinekeep_MembersE b) : a = b := (Ev.encSl_inj inj_GMember) a b h
noncomputable def seinekeep_Members (l0 : List GMember) : Option (List GMember) := tO O 36 [(.slice (List.map encMember l0) [] false)] [] fun r => (seinekeep_MembersE r, [])
theorem seinekeep_Members_spec {l0 : List GMember} {r : List GMember} (h : seinekeep_Members l0 = some r) : O 36 [(.slice (List.map encMember l0) [] false)] [] = some (seinekeep_MembersE r, []) := tO_spec (enc := fun r => (seinekeep_MembersE r, [])) h
def seinekeep_DirsE : (List GDir) → PV := fun r => (encSl encDir) r
theorem seinekeep_DirsEj (a b : List GDir) (h : seinekeep_DirsE a = seinekeep_DirsE b) : a = b := (Ev.encSl_inj inj_GDir) a b h
noncomputable def seinekeep_Dirs (l0 : List GDir) : Option (List GDir) := tO O 37 [(.slice (List.map encDir l0) [] false)] [] fun r => (seinekeep_DirsE r, [])
theorem seinekeep_Dirs_spec {l0 : List GDir} {r : List GDir} (h : seinekeep_Dirs l0 = some r) : O 37 [(.slice (List.map encDir l0) [] false)] [] = some (seinekeep_DirsE r, []) := tO_spec (enc := fun r => (seinekeep_DirsE r, [])) h
def seineref23_truthE : Bool → PV := fun r => PV.bool r
theorem seineref23_truthEj (a b : Bool) (h : seineref23_truthE a = seineref23_truthE b) : a = b := Ev.bool_inj a b h
noncomputable def seineref23_truth (env : List GMember) (d : GDir) : Option Bool := tO O 39 [(.slice (List.map encMember env) [] false), (.agg [(.str d.name), (.slice (List.map encMember d.args) [] false)])] [] fun r => (seineref23_truthE r, [])
theorem seineref23_truth_spec {env : List GMember} {d : GDir} {r : Bool} (h : seineref23_truth env d = some r) : O 39 [(.slice (List.map encMember env) [] false), (.agg [(.str d.name), (.slice (List.map encMember d.args) [] false)])] [] = some (seineref23_truthE r, []) := tO_spec (enc := fun r => (seineref23_truthE r, [])) h
def seineref1_MembersE : Bool → PV := fun r => PV.bool r
theorem seineref1_MembersEj (a b : Bool) (h : seineref1_MembersE a = seineref1_MembersE b) : a = b := Ev.bool_inj a b h
noncomputable def seineref1_Members (a : List GMember) (b : List GMember) : Option Bool := tO O 42 [(.slice (List.map encMember a) [] false), (.slice (List.map encMember b) [] false)] [] fun r => (seineref1_MembersE r, [])
theorem seineref1_Members_spec {a : List GMember} {b : List GMember} {r : Bool} (h : seineref1_Members a b = some r) : O 42 [(.slice (List.map encMember a) [] false), (.slice (List.map encMember b) [] false)] [] = some (seineref1_MembersE r, []) := tO_spec (enc := fun r => (seineref1_MembersE r, [])) h
def seineref6_SameDirsE : Bool → PV := fun r => PV.bool r
theorem seineref6_SameDirsEj (a b : Bool) (h : seineref6_SameDirsE a = seineref6_SameDirsE b) : a = b := Ev.bool_inj a b h
noncomputable def seineref6_SameDirs (a : List GDir) (b : List GDir) : Option Bool := tO O 43 [(.slice (List.map encDir a) [] false), (.slice (List.map encDir b) [] false)] [] fun r => (seineref6_SameDirsE r, [])
theorem seineref6_SameDirs_spec {a : List GDir} {b : List GDir} {r : Bool} (h : seineref6_SameDirs a b = some r) : O 43 [(.slice (List.map encDir a) [] false), (.slice (List.map encDir b) [] false)] [] = some (seineref6_SameDirsE r, []) := tO_spec (enc := fun r => (seineref6_SameDirsE r, [])) h
def defs_FindE : (GDef × Bool) → PV := fun r => .tuple [encDef r.1, PV.bool r.2]
theorem defs_FindEj (a b : GDef × Bool) (h : defs_FindE a = defs_FindE b) : a = b := by
 simp only [defs_FindE, PV.tuple.injEq, List.cons.injEq, and_true] at h
 exact Prod.ext (inj_GDef _ _ h.1) (Ev.bool_inj _ _ h.2)
noncomputable def defs_Find (s : GSchema) (name : Str) : Option (GDef × Bool) := tO O 74 [(.agg [(.slice (List.map encDef s.defs) [] false), (.str s.query), (.str s.mutation)]), (.str name)] [] fun r => (defs_FindE r, [])
theorem defs_Find_spec {s : GSchema} {name : Str} {r : GDef × Bool} (h : defs_Find s name = some r) : O 74 [(.agg [(.slice (List.map encDef s.defs) [] false), (.str s.query), (.str s.mutation)]), (.str name)] [] = some (defs_FindE r, []) := tO_spec (enc := fun r => (defs_FindE r, [])) h
def defs_addE : (List Str) → PV := fun r => .slice (List.map PV.str r) [] true
theorem defs_addEj (a b : List Str) (h : defs_addE a = defs_addE b) : a = b := Ev.encSlO_inj Ev.str_inj a b h
noncomputable def defs_add (l0 : List Str) (name : Str) : Option (List Str) := tO O 75 [(.slice (List.map PV.str l0) [] true), (.str name)] [] fun r => (defs_addE r, [])
theorem defs_add_spec {l0 : List Str} {name : Str} {r : List Str} (h : defs_add l0 name = some r) : O 75 [(.slice (List.map PV.str l0) [] true), (.str name)] [] = some (defs_addE r, []) := tO_spec (enc := fun r => (defs_addE r, [])) h
def defs_KindE : Bool → PV := fun r => PV.bool r
theorem defs_KindEj (a b : Bool) (h : defs_KindE a = defs_KindE b) : a = b := Ev.bool_inj a b h
noncomputable def defs_Kind (s : GSchema) (name : Str) (kinds : List Int) : Option Bool := tO O 76 [(.agg [(.slice (List.map encDef s.defs) [] false), (.str s.query), (.str s.mutation)]), (.str name), (.slice (List.map (PV.int .i64) kinds) [] false)] [] fun r => (defs_KindE r, [])
theorem defs_Kind_spec {s : GSchema} {name : Str} {kinds : List Int} {r : Bool} (h : defs_Kind s name kinds = some r) : O 76 [(.agg [(.slice (List.map encDef s.defs) [] false), (.str s.query), (.str s.mutation)]), (.str name), (.slice (List.map (PV.int .i64) kinds) [] false)] [] = some (defs_KindE r, []) := tO_spec (enc := fun r => (defs_KindE r, [])) h
def slices_Index_string_stringE : Int → PV := fun r => (PV.int .i64) r
theorem slices_Index_string_stringEj (a b : Int) (h : slices_Index_string_stringE a = slices_Index_string_stringE b) : a = b := (Ev.int_inj _) a b h
noncomputable def slices_Index_string_string (s : List Str) (v0 : Str) : Option Int := tO O 73 [(.slice (List.map PV.str s) [] false), (.str v0)] [] fun r => (slices_Index_string_stringE r, [])
theorem slices_Index_string_string_spec {s : List Str} {v0 : Str} {r : Int} (h : slices_Index_string_string s v0 = some r) : O 73 [(.slice (List.map PV.str s) [] false), (.str v0)] [] = some (slices_Index_string_stringE r, []) := tO_spec (enc := fun r => (slices_Index_string_stringE r, [])) h
def seineref9_FindE : (GDef × Bool) → PV := fun r => .tuple [encDef r.1, PV.bool r.2]
theorem seineref9_FindEj (a b : GDef × Bool) (h : seineref9_FindE a = seineref9_FindE b) : a = b := by
 simp only [seineref9_FindE, PV.tuple.injEq, List.cons.injEq, and_true] at h
 exact Prod.ext (inj_GDef _ _ h.1) (Ev.bool_inj _ _ h.2)
noncomputable def seineref9_Find (s : GSchema) (name : Str) : Option (GDef × Bool) := tO O 77 [(.agg [(.slice (List.map encDef s.defs) [] false), (.str s.query), (.str s.mutation)]), (.str name)] [] fun r => (seineref9_FindE r, [])
theorem seineref9_Find_spec {s : GSchema} {name : Str} {r : GDef × Bool} (h : seineref9_Find s name = some r) : O 77 [(.agg [(.slice (List.map encDef s.defs) [] false), (.str s.query), (.str s.mutation)]), (.str name)] [] = some (seineref9_FindE r, []) := tO_spec (enc := fun r => (seineref9_FindE r, [])) h
def seineref9_ObjectE : Bool → PV := fun r => PV.bool r
theorem seineref9_ObjectEj (a b : Bool) (h : seineref9_ObjectE a = seineref9_ObjectE b) : a = b := Ev.bool_inj a b h
noncomputable def seineref9_Object (s : GSchema) (name : Str) : Option Bool := tO O 78 [(.agg [(.slice (List.map encDef s.defs) [] false), (.str s.query), (.str s.mutation)]), (.str name)] [] fun r => (seineref9_ObjectE r, [])
theorem seineref9_Object_spec {s : GSchema} {name : Str} {r : Bool} (h : seineref9_Object s name = some r) : O 78 [(.agg [(.slice (List.map encDef s.defs) [] false), (.str s.query), (.str s.mutation)]), (.str name)] [] = some (seineref9_ObjectE r, []) := tO_spec (enc := fun r => (seineref9_ObjectE r, [])) h
def seinelaw8_lightTextsE : Int → PV := fun r => (PV.int .i64) r
theorem seinelaw8_lightTextsEj (a b : Int) (h : seinelaw8_lightTextsE a = seinelaw8_lightTextsE b) : a = b := (Ev.int_inj _) a b h
noncomputable def seinelaw8_lightTexts (l0 : List Str) : Option Int := tO O 50 [(.slice (List.map PV.str l0) [] false)] [] fun r => (seinelaw8_lightTextsE r, [])
theorem seinelaw8_lightTexts_spec {l0 : List Str} {r : Int} (h : seinelaw8_lightTexts l0 = some r) : O 50 [(.slice (List.map PV.str l0) [] false)] [] = some (seinelaw8_lightTextsE r, []) := tO_spec (enc := fun r => (seinelaw8_lightTextsE r, [])) h
def seinelaw8_lightParamsE : Int → PV := fun r => (PV.int .i64) r
theorem seinelaw8_lightParamsEj (a b : Int) (h : seinelaw8_lightParamsE a = seinelaw8_lightParamsE b) : a = b := (Ev.int_inj _) a b h
noncomputable def seinelaw8_lightParams (l0 : List GParam) : Option Int := tO O 51 [(.slice (List.map encParam l0) [] false)] [] fun r => (seinelaw8_lightParamsE r, [])
theorem seinelaw8_lightParams_spec {l0 : List GParam} {r : Int} (h : seinelaw8_lightParams l0 = some r) : O 51 [(.slice (List.map encParam l0) [] false)] [] = some (seinelaw8_lightParamsE r, []) := tO_spec (enc := fun r => (seinelaw8_lightParamsE r, [])) h
def seinelaw8_lightDirsE : Int → PV := fun r => (PV.int .i64) r
theorem seinelaw8_lightDirsEj (a b : Int) (h : seinelaw8_lightDirsE a = seinelaw8_lightDirsE b) : a = b := (Ev.int_inj _) a b h
noncomputable def seinelaw8_lightDirs (l0 : List GDir) : Option Int := tO O 52 [(.slice (List.map encDir l0) [] false)] [] fun r => (seinelaw8_lightDirsE r, [])
theorem seinelaw8_lightDirs_spec {l0 : List GDir} {r : Int} (h : seinelaw8_lightDirs l0 = some r) : O 52 [(.slice (List.map encDir l0) [] false)] [] = some (seinelaw8_lightDirsE r, []) := tO_spec (enc := fun r => (seinelaw8_lightDirsE r, [])) h
def seinelaw7_lightDirsE : Int → PV := fun r => (PV.int .i64) r
theorem seinelaw7_lightDirsEj (a b : Int) (h : seinelaw7_lightDirsE a = seinelaw7_lightDirsE b) : a = b := (Ev.int_inj _) a b h
noncomputable def seinelaw7_lightDirs (l0 : List GDir) : Option Int := tO O 53 [(.slice (List.map encDir l0) [] false)] [] fun r => (seinelaw7_lightDirsE r, [])
theorem seinelaw7_lightDirs_spec {l0 : List GDir} {r : Int} (h : seinelaw7_lightDirs l0 = some r) : O 53 [(.slice (List.map encDir l0) [] false)] [] = some (seinelaw7_lightDirsE r, []) := tO_spec (enc := fun r => (seinelaw7_lightDirsE r, [])) h
def seinelaw7_lightSelsE : Int → PV := fun r => (PV.int .i64) r
theorem seinelaw7_lightSelsEj (a b : Int) (h : seinelaw7_lightSelsE a = seinelaw7_lightSelsE b) : a = b := (Ev.int_inj _) a b h
noncomputable def seinelaw7_lightSels (l0 : List GSel) : Option Int := tO O 54 [(.slice (List.map encSel l0) [] false)] [] fun r => (seinelaw7_lightSelsE r, [])
theorem seinelaw7_lightSels_spec {l0 : List GSel} {r : Int} (h : seinelaw7_lightSels l0 = some r) : O 54 [(.slice (List.map encSel l0) [] false)] [] = some (seinelaw7_lightSelsE r, []) := tO_spec (enc := fun r => (seinelaw7_lightSelsE r, [])) h
def collect_yesE : Bool → PV := fun r => PV.bool r
theorem collect_yesEj (a b : Bool) (h : collect_yesE a = collect_yesE b) : a = b := Ev.bool_inj a b h
noncomputable def collect_yes (env : List GMember) (d : GDir) : Option Bool := tO O 68 [(.slice (List.map encMember env) [] false), (.agg [(.str d.name), (.slice (List.map encMember d.args) [] false)])] [] fun r => (collect_yesE r, [])
theorem collect_yes_spec {env : List GMember} {d : GDir} {r : Bool} (h : collect_yes env d = some r) : O 68 [(.slice (List.map encMember env) [] false), (.agg [(.str d.name), (.slice (List.map encMember d.args) [] false)])] [] = some (collect_yesE r, []) := tO_spec (enc := fun r => (collect_yesE r, [])) h
def seinekeep_ValueE : GValue → PV := fun r => encValue r
theorem seinekeep_ValueEj (a b : GValue) (h : seinekeep_ValueE a = seinekeep_ValueE b) : a = b := inj_GValue a b h
noncomputable def seinekeep_Value (v0 : GValue) : Option GValue := tO O 65 [(.agg [(.int .i64 v0.kind), (.int .i64 v0.n), (.str v0.s), (.slice (List.map encValue v0.l) [] false), (.slice (List.map encMember v0.m) [] false)])] [] fun r => (seinekeep_ValueE r, [])
theorem seinekeep_Value_spec {v0 : GValue} {r : GValue} (h : seinekeep_Value v0 = some r) : O 65 [(.agg [(.int .i64 v0.kind), (.int .i64 v0.n), (.str v0.s), (.slice (List.map encValue v0.l) [] false), (.slice (List.map encMember v0.m) [] false)])] [] = some (seinekeep_ValueE r, []) := tO_spec (enc := fun r => (seinekeep_ValueE r, [])) h
def seineref1_GetE : (GValue × Bool) → PV := fun r => .tuple [encValue r.1, PV.bool r.2]
theorem seineref1_GetEj (a b : GValue × Bool) (h : seineref1_GetE a = seineref1_GetE b) : a = b := by
 simp only [seineref1_GetE, PV.tuple.injEq, List.cons.injEq, and_true] at h
 exact Prod.ext (inj_GValue _ _ h.1) (Ev.bool_inj _ _ h.2)
noncomputable def seineref1_Get (name : Str) (l0 : List GMember) : Option (GValue × Bool) := tO O 59 [(.str name), (.slice (List.map encMember l0) [] false)] [] fun r => (seineref1_GetE r, [])
theorem seineref1_Get_spec {name : Str} {l0 : List GMember} {r : GValue × Bool} (h : seineref1_Get name l0 = some r) : O 59 [(.str name), (.slice (List.map encMember l0) [] false)] [] = some (seineref1_GetE r, []) := tO_spec (enc := fun r => (seineref1_GetE r, [])) h
def seineref1_SameE : Bool → PV := fun r => PV.bool r
theorem seineref1_SameEj (a b : Bool) (h : seineref1_SameE a = seineref1_SameE b) : a = b := Ev.bool_inj a b h
noncomputable def seineref1_Same (a : GValue) (b : GValue) : Option Bool := tO O 60 [(.agg [(.int .i64 a.kind), (.int .i64 a.n), (.str a.s), (.slice (List.map encValue a.l) [] false), (.slice (List.map encMember a.m) [] false)]), (.agg [(.int .i64 b.kind), (.int .i64 b.n), (.str b.s), (.slice (List.map encValue b.l) [] false), (.slice (List.map encMember b.m) [] false)])] [] fun r => (seineref1_SameE r, [])
theorem seineref1_Same_spec {a : GValue} {b : GValue} {r : Bool} (h : seineref1_Same a b = some r) : O 60 [(.agg [(.int .i64 a.kind), (.int .i64 a.n), (.str a.s), (.slice (List.map encValue a.l) [] false), (.slice (List.map encMember a.m) [] false)]), (.agg [(.int .i64 b.kind), (.int .i64 b.n), (.str b.s), (.slice (List.map encValue b.l) [] false), (.slice (List.map encMember b.m) [] false)])] [] = some (seineref1_SameE r, []) := tO_spec (enc := fun r => (seineref1_SameE r, [])) h
def defs_scalarE : Bool → PV := fun r => PV.bool r
theorem defs_scalarEj (a b : Bool) (h : defs_scalarE a = defs_scalarE b) : a = b := Ev.bool_inj a b h
noncomputable def defs_scalar (name : Str) : Option Bool := tO O 89 [(.str name)] [] fun r => (defs_scalarE r, [])
theorem defs_scalar_spec {name : Str} {r : Bool} (h : defs_scalar name = some r) : O 89 [(.str name)] [] = some (defs_scalarE r, []) := tO_spec (enc := fun r => (defs_scalarE r, [])) h
def slices_Contains_int_intE : Bool → PV := fun r => PV.bool r
theorem slices_Contains_int_intEj (a b : Bool) (h : slices_Contains_int_intE a = slices_Contains_int_intE b) : a = b := Ev.bool_inj a b h
noncomputable def slices_Contains_int_int (s : List Int) (v0 : Int) : Option Bool := tO O 90 [(.slice (List.map (PV.int .i64) s) [] false), (.int .i64 v0)] [] fun r => (slices_Contains_int_intE r, [])
theorem slices_Contains_int_int_spec {s : List Int} {v0 : Int} {r : Bool} (h : slices_Contains_int_int s v0 = some r) : O 90 [(.slice (List.map (PV.int .i64) s) [] false), (.int .i64 v0)] [] = some (slices_Contains_int_intE r, []) := tO_spec (enc := fun r => (slices_Contains_int_intE r, [])) h
def seineref9_scalarE : Bool → PV := fun r => PV.bool r
theorem seineref9_scalarEj (a b : Bool) (h : seineref9_scalarE a = seineref9_scalarE b) : a = b := Ev.bool_inj a b h
noncomputable def seineref9_scalar (name : Str) : Option Bool := tO O 91 [(.str name)] [] fun r => (seineref9_scalarE r, [])
theorem seineref9_scalar_spec {name : Str} {r : Bool} (h : seineref9_scalar name = some r) : O 91 [(.str name)] [] = some (seineref9_scalarE r, []) := tO_spec (enc := fun r => (seineref9_scalarE r, [])) h
def seineref9_isE : Bool → PV := fun r => PV.bool r
theorem seineref9_isEj (a b : Bool) (h : seineref9_isE a = seineref9_isE b) : a = b := Ev.bool_inj a b h
noncomputable def seineref9_is (s : GSchema) (name : Str) (a : Int) (b : Int) (c : Int) : Option Bool := tO O 86 [(.agg [(.slice (List.map encDef s.defs) [] false), (.str s.query), (.str s.mutation)]), (.str name), (.int .i64 a), (.int .i64 b), (.int .i64 c)] [] fun r => (seineref9_isE r, [])
theorem seineref9_is_spec {s : GSchema} {name : Str} {a : Int} {b : Int} {c : Int} {r : Bool} (h : seineref9_is s name a b c = some r) : O 86 [(.agg [(.slice (List.map encDef s.defs) [] false), (.str s.query), (.str s.mutation)]), (.str name), (.int .i64 a), (.int .i64 b), (.int .i64 c)] [] = some (seineref9_isE r, []) := tO_spec (enc := fun r => (seineref9_isE r, [])) h
def value_GetE : (GValue × Bool) → PV := fun r => .tuple [encValue r.1, PV.bool r.2]
theorem value_GetEj (a b : GValue × Bool) (h : value_GetE a = value_GetE b) : a = b := by
 simp only [value_GetE, PV.tuple.injEq, List.cons.injEq, and_true] at h
 exact Prod.ext (inj_GValue _ _ h.1) (Ev.bool_inj _ _ h.2)
noncomputable def value_Get (name : Str) (l0 : List GMember) : Option (GValue × Bool) := tO O 57 [(.str name), (.slice (List.map encMember l0) [] false)] [] fun r => (value_GetE r, [])
theorem value_Get_spec {name : Str} {l0 : List GMember} {r : GValue × Bool} (h : value_Get name l0 = some r) : O 57 [(.str name), (.slice (List.map encMember l0) [] false)] [] = some (value_GetE r, []) := tO_spec (enc := fun r => (value_GetE r, [])) h
def slices_Index_int_intE : Int → PV := fun r => (PV.int .i64) r
theorem slices_Index_int_intEj (a b : Int) (h : slices_Index_int_intE a = slices_Index_int_intE b) : a = b := (Ev.int_inj _) a b h
noncomputable def slices_Index_int_int (s : List Int) (v0 : Int) : Option Int := tO O 98 [(.slice (List.map (PV.int .i64) s) [] false), (.int .i64 v0)] [] fun r => (slices_Index_int_intE r, [])
theorem slices_Index_int_int_spec {s : List Int} {v0 : Int} {r : Int} (h : slices_Index_int_int s v0 = some r) : O 98 [(.slice (List.map (PV.int .i64) s) [] false), (.int .i64 v0)] [] = some (slices_Index_int_intE r, []) := tO_spec (enc := fun r => (slices_Index_int_intE r, [])) h
end Go.Proofs.Ytfbaogfcpldlnaa
