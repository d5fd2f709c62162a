import Derived.Test.YtfbaogfcpldlnaaEd
import Derived.Test.YtfbaogfcpldlnaaProg
import Derived.KernelRfl
set_option linter.unusedVariables false
set_option linter.unusedSimpArgs false
set_option linter.unusedSimpArgs false
open Go Go.Ev Go.Ev.PV
namespace Go.Proofs.Ytfbaogfcpldlnaa
structure GType where
 name : Str
 lists : Int
 musts : Int
mutual
structure GValue where
 kind : Int
 n : Int
 s : Str
 l : List GValue
 m : List GMember
structure GMember where
 name : Str
 v : GValue
end
structure GParam where
 name : Str
 t : GType
 has : Bool
 default : GValue
structure GDir where
 name : Str
 args : List GMember
structure GFieldDef where
 name : Str
 params : List GParam
 t : GType
 dirs : List GDir
structure GDef where
 kind : Int
 name : Str
 faces : List Str
 fields : List GFieldDef
 parts : List Str
 params : List GParam
structure GSchema where
 defs : List GDef
 query : Str
 mutation : Str
structure GVarDef where
 name : Str
 t : GType
 has : Bool
 default : GValue
structure GSel where
 kind : Int
 alias : Str
 name : Str
 args : List GMember
 dirs : List GDir
 on_ : Str
 sels : List GSel
structure GOp where
 kind : Int
 name : Str
 vars : List GVarDef
 dirs : List GDir
 sels : List GSel
structure GFrag where
 name : Str
 on_ : Str
 dirs : List GDir
 sels : List GSel
structure GDoc where
 ops : List GOp
 frags : List GFrag
def shType : Sh := .agg [.str, (.int .i64), (.int .i64)]
def shValue : Sh := .agg [(.int .i64), (.int .i64), .str, (.sl false), (.sl false)]
def shMember : Sh := .agg [.str, (.int .i64), (.int .i64), .str, (.sl false), (.sl false)]
def shParam : Sh := .agg [.str, .str, (.int .i64), (.int .i64), .bool, (.int .i64), (.int .i64), .str, (.sl false), (.sl false)]
def shDir : Sh := .agg [.str, (.sl false)]
def shFieldDef : Sh := .agg [.str, (.sl false), .str, (.int .i64), (.int .i64), (.sl false)]
def shDef : Sh := .agg [(.int .i64), .str, (.sl false), (.sl false), (.sl false), (.sl false)]
def shSchema : Sh := .agg [(.sl false), .str, .str]
def shVarDef : Sh := .agg [.str, .str, (.int .i64), (.int .i64), .bool, (.int .i64), (.int .i64), .str, (.sl false), (.sl false)]
def shSel : Sh := .agg [(.int .i64), .str, .str, (.sl false), (.sl false), .str, (.sl false)]
def shOp : Sh := .agg [(.int .i64), .str, (.sl false), (.sl false), (.sl false)]
def shFrag : Sh := .agg [.str, .str, (.sl false), (.sl false)]
def shDoc : Sh := .agg [(.sl false), (.sl false)]
def encType (x : GType) : PV := .agg [.str x.name, .int .i64 x.lists, .int .i64 x.musts]
theorem encType_eq (x : GType) : encType x = .agg [.str x.name, .int .i64 x.lists, .int .i64 x.musts] := rfl
theorem chk_GType (x : GType) : chk shType (encType x) = true := by rw [encType_eq]; rfl
mutual
def encValue : GValue → PV
 | ⟨x0, x1, x2, x3, x4⟩ => .agg ([.int .i64 x0, .int .i64 x1, .str x2, .slice (encValues x3) [] false, .slice (encMembers x4) [] false])
def encMember : GMember → PV
 | ⟨x0, x1⟩ => .agg ([.str x0] ++ (encValue x1).cells)
def encValues : List GValue → List PV
 | [] => []
 | x :: l => encValue x :: encValues l
def encMembers : List GMember → List PV
 | [] => []
 | x :: l => encMember x :: encMembers l
end
theorem encValues_eq : ∀ (l : List GValue), encValues l = List.map encValue l
 | [] => by simp only [encValues, List.map]
 | x :: l => by simp only [encValues, List.map, encValues_eq l]
theorem encMembers_eq : ∀ (l : List GMember), encMembers l = List.map encMember l
 | [] => by simp only [encMembers, List.map]
 | x :: l => by simp only [encMembers, List.map, encMembers_eq l]
theorem encValue_eq (x : GValue) : encValue x = .agg [.int .i64 x.kind, .int .i64 x.n, .str x.s, .slice (List.map encValue x.l) [] false, .slice (List.map encMember x.m) [] false] := by
 cases x; simp only [encValue, cells, List.cons_append, List.nil_append, encValues_eq, encMembers_eq]
theorem encMember_eq (x : GMember) : encMember x = .agg [.str x.name, .int .i64 x.v.kind, .int .i64 x.v.n, .str x.v.s, .slice (List.map encValue x.v.l) [] false, .slice (List.map encMember x.v.m) [] false] := by
 cases x; simp only [encMember, cells, List.cons_append, List.nil_append, encValues_eq, encMembers_eq, encValue_eq]
theorem chk_GValue (x : GValue) : chk shValue (encValue x) = true := by rw [encValue_eq]; rfl
theorem chk_GMember (x : GMember) : chk shMember (encMember x) = true := by rw [encMember_eq]; rfl
mutual
theorem inj_GValue : ∀ (a b : GValue), encValue a = encValue b → a = b
 | ⟨a0, a1, a2, a3, a4⟩, ⟨b0, b1, b2, b3, b4⟩, h => by
  simp only [encValue, PV.agg.injEq, List.cons.injEq, List.append_eq, PV.slice.injEq, PV.str.injEq, PV.int.injEq, PV.bool.injEq, true_and, and_true] at h
  have e0 := h.1
  have e1 := h.2.1
  have e2 := h.2.2.1
  have e3 := inj_GValues _ _ h.2.2.2.1
  have e4 := inj_GMembers _ _ h.2.2.2.2
  subst e0 e1 e2 e3 e4
  rfl
theorem inj_GMember : ∀ (a b : GMember), encMember a = encMember b → a = b
 | ⟨a0, a1⟩, ⟨b0, b1⟩, h => by
  simp only [encMember, PV.agg.injEq, List.cons_append, List.nil_append, List.cons.injEq, PV.slice.injEq, PV.str.injEq, PV.int.injEq, PV.bool.injEq, true_and, and_true] at h
  have e0 := h.1
  have e1 := inj_GValue a1 b1 (by
   have h' := h.2
   cases a1; cases b1; simp only [encValue, cells] at h' ⊢; rw [h'])
  subst e0 e1
  rfl
theorem inj_GValues : ∀ (a b : List GValue), encValues a = encValues b → a = b
 | [], [], _ => rfl
 | [], _ :: _, h => by simp [encValues] at h
 | _ :: _, [], h => by simp [encValues] at h
 | x :: l, y :: m, h => by
  simp only [encValues, List.cons.injEq] at h
  rw [inj_GValue x y h.1, inj_GValues l m h.2]
theorem inj_GMembers : ∀ (a b : List GMember), encMembers a = encMembers b → a = b
 | [], [], _ => rfl
 | [], _ :: _, h => by simp [encMembers] at h
 | _ :: _, [], h => by simp [encMembers] at h
 | x :: l, y :: m, h => by
  simp only [encMembers, List.cons.injEq] at h
  rw [inj_GMember x y h.1, inj_GMembers l m h.2]
end
def encParam (x : GParam) : PV := .agg [.str x.name, .str x.t.name, .int .i64 x.t.lists, .int .i64 x.t.musts, .bool x.has, .int .i64 x.default.kind, .int .i64 x.default.n, .str x.default.s, .slice (List.map encValue x.default.l) [] false, .slice (List.map encMember x.default.m) [] false]
theorem encParam_eq (x : GParam) : encParam x = .agg [.str x.name, .str x.t.name, .int .i64 x.t.lists, .int .i64 x.t.musts, .bool x.has, .int .i64 x.default.kind, .int .i64 x.default.n, .str x.default.s, .slice (List.map encValue x.default.l) [] false, .slice (List.map encMember x.default.m) [] false] := rfl
theorem chk_GParam (x : GParam) : chk shParam (encParam x) = true := by rw [encParam_eq]; rfl
theorem inj_GParam (a b : GParam) (h : encParam a = encParam b) : a = b := by
 simp only [encParam_eq, PV.agg.injEq, List.cons.injEq, PV.slice.injEq, PV.str.injEq, PV.int.injEq, PV.bool.injEq, true_and, and_true] at h
 obtain ⟨a0, ⟨a1, a2, a3⟩, a4, ⟨a5, a6, a7, a8, a9⟩⟩ := a
 obtain ⟨b0, ⟨b1, b2, b3⟩, b4, ⟨b5, b6, b7, b8, b9⟩⟩ := b
 dsimp only at h
 have e0 := h.1
 have e1 := h.2.1
 have e2 := h.2.2.1
 have e3 := h.2.2.2.1
 have e4 := h.2.2.2.2.1
 have e5 := h.2.2.2.2.2.1
 have e6 := h.2.2.2.2.2.2.1
 have e7 := h.2.2.2.2.2.2.2.1
 have e8 := map_inj' inj_GValue h.2.2.2.2.2.2.2.2.1
 have e9 := map_inj' inj_GMember h.2.2.2.2.2.2.2.2.2
 subst e0 e1 e2 e3 e4 e5 e6 e7 e8 e9
 rfl
def encDir (x : GDir) : PV := .agg [.str x.name, .slice (List.map encMember x.args) [] false]
theorem encDir_eq (x : GDir) : encDir x = .agg [.str x.name, .slice (List.map encMember x.args) [] false] := rfl
theorem chk_GDir (x : GDir) : chk shDir (encDir x) = true := by rw [encDir_eq]; rfl
theorem inj_GDir (a b : GDir) (h : encDir a = encDir b) : a = b := by
 simp only [encDir_eq, PV.agg.injEq, List.cons.injEq, PV.slice.injEq, PV.str.injEq, PV.int.injEq, PV.bool.injEq, true_and, and_true] at h
 obtain ⟨a0, a1⟩ := a
 obtain ⟨b0, b1⟩ := b
 dsimp only at h
 have e0 := h.1
 have e1 := map_inj' inj_GMember h.2
 subst e0 e1
 rfl
def encFieldDef (x : GFieldDef) : PV := .agg [.str x.name, .slice (List.map encParam x.params) [] false, .str x.t.name, .int .i64 x.t.lists, .int .i64 x.t.musts, .slice (List.map encDir x.dirs) [] false]
theorem encFieldDef_eq (x : GFieldDef) : encFieldDef x = .agg [.str x.name, .slice (List.map encParam x.params) [] false, .str x.t.name, .int .i64 x.t.lists, .int .i64 x.t.musts, .slice (List.map encDir x.dirs) [] false] := rfl
theorem chk_GFieldDef (x : GFieldDef) : chk shFieldDef (encFieldDef x) = true := by rw [encFieldDef_eq]; rfl
theorem inj_GFieldDef (a b : GFieldDef) (h : encFieldDef a = encFieldDef b) : a = b := by
 simp only [encFieldDef_eq, PV.agg.injEq, List.cons.injEq, PV.slice.injEq, PV.str.injEq, PV.int.injEq, PV.bool.injEq, true_and, and_true] at h
 obtain ⟨a0, a1, ⟨a2, a3, a4⟩, a5⟩ := a
 obtain ⟨b0, b1, ⟨b2, b3, b4⟩, b5⟩ := b
 dsimp only at h
 have e0 := h.1
 have e1 := map_inj' inj_GParam h.2.1
 have e2 := h.2.2.1
 have e3 := h.2.2.2.1
 have e4 := h.2.2.2.2.1
 have e5 := map_inj' inj_GDir h.2.2.2.2.2
 subst e0 e1 e2 e3 e4 e5
 rfl
def encDef (x : GDef) : PV := .agg [.int .i64 x.kind, .str x.name, .slice (List.map PV.str x.faces) [] false, .slice (List.map encFieldDef x.fields) [] false, .slice (List.map PV.str x.parts) [] false, .slice (List.map encParam x.params) [] false]
theorem encDef_eq (x : GDef) : encDef x = .agg [.int .i64 x.kind, .str x.name, .slice (List.map PV.str x.faces) [] false, .slice (List.map encFieldDef x.fields) [] false, .slice (List.map PV.str x.parts) [] false, .slice (List.map encParam x.params) [] false] := rfl
theorem chk_GDef (x : GDef) : chk shDef (encDef x) = true := by rw [encDef_eq]; rfl
theorem inj_GDef (a b : GDef) (h : encDef a = encDef b) : a = b := by
 simp only [encDef_eq, PV.agg.injEq, List.cons.injEq, PV.slice.injEq, PV.str.injEq, PV.int.injEq, PV.bool.injEq, true_and, and_true] at h
 obtain ⟨a0, a1, a2, a3, a4, a5⟩ := a
 obtain ⟨b0, b1, b2, b3, b4, b5⟩ := b
 dsimp only at h
 have e0 := h.1
 have e1 := h.2.1
 have e2 := map_inj' Ev.str_inj h.2.2.1
 have e3 := map_inj' inj_GFieldDef h.2.2.2.1
 have e4 := map_inj' Ev.str_inj h.2.2.2.2.1
 have e5 := map_inj' inj_GParam h.2.2.2.2.2
 subst e0 e1 e2 e3 e4 e5
 rfl
def encSchema (x : GSchema) : PV := .agg [.slice (List.map encDef x.defs) [] false, .str x.query, .str x.mutation]
theorem encSchema_eq (x : GSchema) : encSchema x = .agg [.slice (List.map encDef x.defs) [] false, .str x.query, .str x.mutation] := rfl
theorem chk_GSchema (x : GSchema) : chk shSchema (encSchema x) = true := by rw [encSchema_eq]; rfl
theorem inj_GSchema (a b : GSchema) (h : encSchema a = encSchema b) : a = b := by
 simp only [encSchema_eq, PV.agg.injEq, List.cons.injEq, PV.slice.injEq, PV.str.injEq, PV.int.injEq, PV.bool.injEq, true_and, and_true] at h
 obtain ⟨a0, a1, a2⟩ := a
 obtain ⟨b0, b1, b2⟩ := b
 dsimp only at h
 have e0 := map_inj' inj_GDef h.1
 have e1 := h.2.1
 have e2 := h.2.2
 subst e0 e1 e2
 rfl
def encVarDef (x : GVarDef) : PV := .agg [.str x.name, .str x.t.name, .int .i64 x.t.lists, .int .i64 x.t.musts, .bool x.has, .int .i64 x.default.kind, .int .i64 x.default.n, .str x.default.s, .slice (List.map encValue x.default.l) [] false, .slice (List.map encMember x.default.m) [] false]
theorem encVarDef_eq (x : GVarDef) : encVarDef x = .agg [.str x.name, .str x.t.name, .int .i64 x.t.lists, .int .i64 x.t.musts, .bool x.has, .int .i64 x.default.kind, .int .i64 x.default.n, .str x.default.s, .slice (List.map encValue x.default.l) [] false, .slice (List.map encMember x.default.m) [] false] := rfl
theorem chk_GVarDef (x : GVarDef) : chk shVarDef (encVarDef x) = true := by rw [encVarDef_eq]; rfl
theorem inj_GVarDef (a b : GVarDef) (h : encVarDef a = encVarDef b) : a = b := by
 simp only [encVarDef_eq, PV.agg.injEq, List.cons.injEq, PV.slice.injEq, PV.str.injEq, PV.int.injEq, PV.bool.injEq, true_and, and_true] at h
 obtain ⟨a0, ⟨a1, a2, a3⟩, a4, ⟨a5, a6, a7, a8, a9⟩⟩ := a
 obtain ⟨b0, ⟨b1, b2, b3⟩, b4, ⟨b5, b6, b7, b8, b9⟩⟩ := b
 dsimp only at h
 have e0 := h.1
 have e1 := h.2.1
 have e2 := h.2.2.1
 have e3 := h.2.2.2.1
 have e4 := h.2.2.2.2.1
 have e5 := h.2.2.2.2.2.1
 have e6 := h.2.2.2.2.2.2.1
 have e7 := h.2.2.2.2.2.2.2.1
 have e8 := map_inj' inj_GValue h.2.2.2.2.2.2.2.2.1
 have e9 := map_inj' inj_GMember h.2.2.2.2.2.2.2.2.2
 subst e0 e1 e2 e3 e4 e5 e6 e7 e8 e9
 rfl
mutual
def encSel : GSel → PV
 | ⟨x0, x1, x2, x3, x4, x5, x6⟩ => .agg ([.int .i64 x0, .str x1, .str x2, .slice (List.map encMember x3) [] false, .slice (List.map encDir x4) [] false, .str x5, .slice (encSels x6) [] false])
def encSels : List GSel → List PV
 | [] => []
 | x :: l => encSel x :: encSels l
end
theorem encSels_eq : ∀ (l : List GSel), encSels l = List.map encSel l
 | [] => by simp only [encSels, List.map]
 | x :: l => by simp only [encSels, List.map, encSels_eq l]
theorem encSel_eq (x : GSel) : encSel x = .agg [.int .i64 x.kind, .str x.alias, .str x.name, .slice (List.map encMember x.args) [] false, .slice (List.map encDir x.dirs) [] false, .str x.on_, .slice (List.map encSel x.sels) [] false] := by
 cases x; simp only [encSel, cells, List.cons_append, List.nil_append, encSels_eq]
theorem chk_GSel (x : GSel) : chk shSel (encSel x) = true := by rw [encSel_eq]; rfl
mutual
theorem inj_GSel : ∀ (a b : GSel), encSel a = encSel b → a = b
 | ⟨a0, a1, a2, a3, a4, a5, a6⟩, ⟨b0, b1, b2, b3, b4, b5, b6⟩, h => by
  simp only [encSel, PV.agg.injEq, List.cons.injEq, List.append_eq, PV.slice.injEq, PV.str.injEq, PV.int.injEq, PV.bool.injEq, true_and, and_true] at h
  have e0 := h.1
  have e1 := h.2.1
  have e2 := h.2.2.1
  have e3 := map_inj' inj_GMember h.2.2.2.1
  have e4 := map_inj' inj_GDir h.2.2.2.2.1
  have e5 := h.2.2.2.2.2.1
  have e6 := inj_GSels _ _ h.2.2.2.2.2.2
  subst e0 e1 e2 e3 e4 e5 e6
  rfl
theorem inj_GSels : ∀ (a b : List GSel), encSels a = encSels b → a = b
 | [], [], _ => rfl
 | [], _ :: _, h => by simp [encSels] at h
 | _ :: _, [], h => by simp [encSels] at h
 | x :: l, y :: m, h => by
  simp only [encSels, List.cons.injEq] at h
  rw [inj_GSel x y h.1, inj_GSels l m h.2]
end
def encOp (x : GOp) : PV := .agg [.int .i64 x.kind, .str x.name, .slice (List.map encVarDef x.vars) [] false, .slice (List.map encDir x.dirs) [] false, .slice (List.map encSel x.sels) [] false]
theorem encOp_eq (x : GOp) : encOp x = .agg [.int .i64 x.kind, .str x.name, .slice (List.map encVarDef x.vars) [] false, .slice (List.map encDir x.dirs) [] false, .slice (List.map encSel x.sels) [] false] := rfl
theorem chk_GOp (x : GOp) : chk shOp (encOp x) = true := by rw [encOp_eq]; rfl
theorem inj_GOp (a b : GOp) (h : encOp a = encOp b) : a = b := by
 simp only [encOp_eq, PV.agg.injEq, List.cons.injEq, PV.slice.injEq, PV.str.injEq, PV.int.injEq, PV.bool.injEq, true_and, and_true] at h
 obtain ⟨a0, a1, a2, a3, a4⟩ := a
 obtain ⟨b0, b1, b2, b3, b4⟩ := b
 dsimp only at h
 have e0 := h.1
 have e1 := h.2.1
 have e2 := map_inj' inj_GVarDef h.2.2.1
 have e3 := map_inj' inj_GDir h.2.2.2.1
 have e4 := map_inj' inj_GSel h.2.2.2.2
 subst e0 e1 e2 e3 e4
 rfl
def encFrag (x : GFrag) : PV := .agg [.str x.name, .str x.on_, .slice (List.map encDir x.dirs) [] false, .slice (List.map encSel x.sels) [] false]
theorem encFrag_eq (x : GFrag) : encFrag x = .agg [.str x.name, .str x.on_, .slice (List.map encDir x.dirs) [] false, .slice (List.map encSel x.sels) [] false] := rfl
theorem chk_GFrag (x : GFrag) : chk shFrag (encFrag x) = true := by rw [encFrag_eq]; rfl
theorem inj_GFrag (a b : GFrag) (h : encFrag a = encFrag b) : a = b := by
 simp only [encFrag_eq, PV.agg.injEq, List.cons.injEq, PV.slice.injEq, PV.str.injEq, PV.int.injEq, PV.bool.injEq, true_and, and_true] at h
 obtain ⟨a0, a1, a2, a3⟩ := a
 obtain ⟨b0, b1, b2, b3⟩ := b
 dsimp only at h
 have e0 := h.1
 have e1 := h.2.1
 have e2 := map_inj' inj_GDir h.2.2.1
 have e3 := map_inj' inj_GSel h.2.2.2
 subst e0 e1 e2 e3
 rfl
def encDoc (x : GDoc) : PV := .agg [.slice (List.map encOp x.ops) [] false, .slice (List.map encFrag x.frags) [] false]
theorem encDoc_eq (x : GDoc) : encDoc x = .agg [.slice (List.map encOp x.ops) [] false, .slice (List.map encFrag x.frags) [] false] := rfl
theorem chk_GDoc (x : GDoc) : chk shDoc (encDoc x) = true := by rw [encDoc_eq]; rfl
theorem tys : (∀ x : GType, encType x = .agg [.str x.name, .int .i64 x.lists, .int .i64 x.musts]) ∧
  (∀ x : GValue, encValue x = .agg [.int .i64 x.kind, .int .i64 x.n, .str x.s, .slice (List.map encValue x.l) [] false, .slice (List.map encMember x.m) [] false]) ∧
  (∀ x : GMember, encMember x = .agg [.str x.name, .int .i64 x.v.kind, .int .i64 x.v.n, .str x.v.s, .slice (List.map encValue x.v.l) [] false, .slice (List.map encMember x.v.m) [] false]) ∧
  (∀ x : GParam, encParam x = .agg [.str x.name, .str x.t.name, .int .i64 x.t.lists, .int .i64 x.t.musts, .bool x.has, .int .i64 x.default.kind, .int .i64 x.default.n, .str x.default.s, .slice (List.map encValue x.default.l) [] false, .slice (List.map encMember x.default.m) [] false]) ∧
  (∀ x : GDir, encDir x = .agg [.str x.name, .slice (List.map encMember x.args) [] false]) ∧
  (∀ x : GFieldDef, encFieldDef x = .agg [.str x.name, .slice (List.map encParam x.params) [] false, .str x.t.name, .int .i64 x.t.lists, .int .i64 x.t.musts, .slice (List.map encDir x.dirs) [] false]) ∧
  (∀ x : GDef, encDef x = .agg [.int .i64 x.kind, .str x.name, .slice (List.map PV.str x.faces) [] false, .slice (List.map encFieldDef x.fields) [] false, .slice (List.map PV.str x.parts) [] false, .slice (List.map encParam x.params) [] false]) ∧
  (∀ x : GSchema, encSchema x = .agg [.slice (List.map encDef x.defs) [] false, .str x.query, .str x.mutation]) ∧
  (∀ x : GVarDef, encVarDef x = .agg [.str x.name, .str x.t.name, .int .i64 x.t.lists, .int .i64 x.t.musts, .bool x.has, .int .i64 x.default.kind, .int .i64 x.default.n, .str x.default.s, .slice (List.map encValue x.default.l) [] false, .slice (List.map encMember x.default.m) [] false]) ∧
  (∀ x : GSel, encSel x = .agg [.int .i64 x.kind, .str x.alias, .str x.name, .slice (List.map encMember x.args) [] false, .slice (List.map encDir x.dirs) [] false, .str x.on_, .slice (List.map encSel x.sels) [] false]) ∧
  (∀ x : GOp, encOp x = .agg [.int .i64 x.kind, .str x.name, .slice (List.map encVarDef x.vars) [] false, .slice (List.map encDir x.dirs) [] false, .slice (List.map encSel x.sels) [] false]) ∧
  (∀ x : GFrag, encFrag x = .agg [.str x.name, .str x.on_, .slice (List.map encDir x.dirs) [] false, .slice (List.map encSel x.sels) [] false]) ∧
  (∀ x : GDoc, encDoc x = .agg [.slice (List.map encOp x.ops) [] false, .slice (List.map encFrag x.frags) [] false]) := ⟨encType_eq, encValue_eq, encMember_eq, encParam_eq, encDir_eq, encFieldDef_eq, encDef_eq, encSchema_eq, encVarDef_eq, encSel_eq, encOp_eq, encFrag_eq, encDoc_eq⟩
theorem chks : (∀ x, chk shType (encType x) = true) ∧
  (∀ x, chk shValue (encValue x) = true) ∧
  (∀ x, chk shMember (encMember x) = true) ∧
  (∀ x, chk shParam (encParam x) = true) ∧
  (∀ x, chk shDir (encDir x) = true) ∧
  (∀ x, chk shFieldDef (encFieldDef x) = true) ∧
  (∀ x, chk shDef (encDef x) = true) ∧
  (∀ x, chk shSchema (encSchema x) = true) ∧
  (∀ x, chk shVarDef (encVarDef x) = true) ∧
  (∀ x, chk shSel (encSel x) = true) ∧
  (∀ x, chk shOp (encOp x) = true) ∧
  (∀ x, chk shFrag (encFrag x) = true) ∧
  (∀ x, chk shDoc (encDoc x) = true) := ⟨chk_GType, chk_GValue, chk_GMember, chk_GParam, chk_GDir, chk_GFieldDef, chk_GDef, chk_GSchema, chk_GVarDef, chk_GSel, chk_GOp, chk_GFrag, chk_GDoc⟩
open Go Go.Ev Go.Ev.PV
def bkType (x : GType) : Nat := (bkStr x.name + (bk1 x.lists + (bk1 x.musts + (0)))) + 1
def gdType (x : GType) : Prop := gd1 x.name ∧ ((gdI .i64) x.lists ∧ ((gdI .i64) x.musts ∧ (True)))
theorem bkType_eq (x : GType) : bkType x = (bkStr x.name + (bk1 x.lists + (bk1 x.musts + (0)))) + 1 := rfl
theorem gdType_eq (x : GType) : gdType x = (gd1 x.name ∧ ((gdI .i64) x.lists ∧ ((gdI .i64) x.musts ∧ (True)))) := rfl
mutual
def bkValue : GValue → Nat
 | ⟨x0, x1, x2, x3, x4⟩ => (bk1 x0 + (bk1 x1 + (bkStr x2 + ((bkValues x3 + 1) + ((bkMembers x4 + 1) + (0)))))) + 1
def bkMember : GMember → Nat
 | ⟨x0, x1⟩ => (bkStr x0 + (bkValue x1 + (0))) + 1
def bkValues : List GValue → Nat
 | [] => 0
 | x :: l => bkValue x + bkValues l
def bkMembers : List GMember → Nat
 | [] => 0
 | x :: l => bkMember x + bkMembers l
end
mutual
def gdValue : GValue → Prop
 | ⟨x0, x1, x2, x3, x4⟩ => (gdI .i64) x0 ∧ ((gdI .i64) x1 ∧ (gd1 x2 ∧ (gdValues x3 ∧ (gdMembers x4 ∧ (True)))))
def gdMember : GMember → Prop
 | ⟨x0, x1⟩ => gd1 x0 ∧ (gdValue x1 ∧ (True))
def gdValues : List GValue → Prop
 | [] => True
 | x :: l => gdValue x ∧ gdValues l
def gdMembers : List GMember → Prop
 | [] => True
 | x :: l => gdMember x ∧ gdMembers l
end
theorem bkValues_eq : ∀ (l : List GValue), bkValues l = sumL bkValue l
 | [] => by simp only [bkValues, sumL]
 | x :: l => by simp only [bkValues, sumL, bkValues_eq l]
theorem gdValues_eq : ∀ (l : List GValue), gdValues l = gdSl gdValue l
 | [] => by simp [gdValues, gdSl]
 | x :: l => by simp [gdValues, gdSl, gdValues_eq l]
theorem bkMembers_eq : ∀ (l : List GMember), bkMembers l = sumL bkMember l
 | [] => by simp only [bkMembers, sumL]
 | x :: l => by simp only [bkMembers, sumL, bkMembers_eq l]
theorem gdMembers_eq : ∀ (l : List GMember), gdMembers l = gdSl gdMember l
 | [] => by simp [gdMembers, gdSl]
 | x :: l => by simp [gdMembers, gdSl, gdMembers_eq l]
theorem bkValue_eq (x : GValue) : bkValue x = (bk1 x.kind + (bk1 x.n + (bkStr x.s + ((bkSl bkValue) x.l + ((bkSl bkMember) x.m + (0)))))) + 1 := by
 cases x; simp only [bkValue, bkSl, bkValues_eq, bkMembers_eq]
theorem gdValue_eq (x : GValue) : gdValue x = ((gdI .i64) x.kind ∧ ((gdI .i64) x.n ∧ (gd1 x.s ∧ ((gdSl gdValue) x.l ∧ ((gdSl gdMember) x.m ∧ (True)))))) := by
 cases x; simp only [gdValue, gdValues_eq, gdMembers_eq]
theorem bkMember_eq (x : GMember) : bkMember x = (bkStr x.name + (bkValue x.v + (0))) + 1 := by
 cases x; simp only [bkMember, bkSl, bkValues_eq, bkMembers_eq]
theorem gdMember_eq (x : GMember) : gdMember x = (gd1 x.name ∧ (gdValue x.v ∧ (True))) := by
 cases x; simp only [gdMember, gdValues_eq, gdMembers_eq]
def bkParam (x : GParam) : Nat := (bkStr x.name + (bkType x.t + (bk1 x.has + (bkValue x.default + (0))))) + 1
def gdParam (x : GParam) : Prop := gd1 x.name ∧ (gdType x.t ∧ (gd1 x.has ∧ (gdValue x.default ∧ (True))))
theorem bkParam_eq (x : GParam) : bkParam x = (bkStr x.name + (bkType x.t + (bk1 x.has + (bkValue x.default + (0))))) + 1 := rfl
theorem gdParam_eq (x : GParam) : gdParam x = (gd1 x.name ∧ (gdType x.t ∧ (gd1 x.has ∧ (gdValue x.default ∧ (True))))) := rfl
def bkDir (x : GDir) : Nat := (bkStr x.name + ((bkSl bkMember) x.args + (0))) + 1
def gdDir (x : GDir) : Prop := gd1 x.name ∧ ((gdSl gdMember) x.args ∧ (True))
theorem bkDir_eq (x : GDir) : bkDir x = (bkStr x.name + ((bkSl bkMember) x.args + (0))) + 1 := rfl
theorem gdDir_eq (x : GDir) : gdDir x = (gd1 x.name ∧ ((gdSl gdMember) x.args ∧ (True))) := rfl
def bkFieldDef (x : GFieldDef) : Nat := (bkStr x.name + ((bkSl bkParam) x.params + (bkType x.t + ((bkSl bkDir) x.dirs + (0))))) + 1
def gdFieldDef (x : GFieldDef) : Prop := gd1 x.name ∧ ((gdSl gdParam) x.params ∧ (gdType x.t ∧ ((gdSl gdDir) x.dirs ∧ (True))))
theorem bkFieldDef_eq (x : GFieldDef) : bkFieldDef x = (bkStr x.name + ((bkSl bkParam) x.params + (bkType x.t + ((bkSl bkDir) x.dirs + (0))))) + 1 := rfl
theorem gdFieldDef_eq (x : GFieldDef) : gdFieldDef x = (gd1 x.name ∧ ((gdSl gdParam) x.params ∧ (gdType x.t ∧ ((gdSl gdDir) x.dirs ∧ (True))))) := rfl
def bkDef (x : GDef) : Nat := (bk1 x.kind + (bkStr x.name + ((bkSl bkStr) x.faces + ((bkSl bkFieldDef) x.fields + ((bkSl bkStr) x.parts + ((bkSl bkParam) x.params + (0))))))) + 1
def gdDef (x : GDef) : Prop := (gdI .i64) x.kind ∧ (gd1 x.name ∧ ((gdSl gd1) x.faces ∧ ((gdSl gdFieldDef) x.fields ∧ ((gdSl gd1) x.parts ∧ ((gdSl gdParam) x.params ∧ (True))))))
theorem bkDef_eq (x : GDef) : bkDef x = (bk1 x.kind + (bkStr x.name + ((bkSl bkStr) x.faces + ((bkSl bkFieldDef) x.fields + ((bkSl bkStr) x.parts + ((bkSl bkParam) x.params + (0))))))) + 1 := rfl
theorem gdDef_eq (x : GDef) : gdDef x = ((gdI .i64) x.kind ∧ (gd1 x.name ∧ ((gdSl gd1) x.faces ∧ ((gdSl gdFieldDef) x.fields ∧ ((gdSl gd1) x.parts ∧ ((gdSl gdParam) x.params ∧ (True))))))) := rfl
def bkSchema (x : GSchema) : Nat := ((bkSl bkDef) x.defs + (bkStr x.query + (bkStr x.mutation + (0)))) + 1
def gdSchema (x : GSchema) : Prop := (gdSl gdDef) x.defs ∧ (gd1 x.query ∧ (gd1 x.mutation ∧ (True)))
theorem bkSchema_eq (x : GSchema) : bkSchema x = ((bkSl bkDef) x.defs + (bkStr x.query + (bkStr x.mutation + (0)))) + 1 := rfl
theorem gdSchema_eq (x : GSchema) : gdSchema x = ((gdSl gdDef) x.defs ∧ (gd1 x.query ∧ (gd1 x.mutation ∧ (True)))) := rfl
def bkVarDef (x : GVarDef) : Nat := (bkStr x.name + (bkType x.t + (bk1 x.has + (bkValue x.default + (0))))) + 1
def gdVarDef (x : GVarDef) : Prop := gd1 x.name ∧ (gdType x.t ∧ (gd1 x.has ∧ (gdValue x.default ∧ (True))))
theorem bkVarDef_eq (x : GVarDef) : bkVarDef x = (bkStr x.name + (bkType x.t + (bk1 x.has + (bkValue x.default + (0))))) + 1 := rfl
theorem gdVarDef_eq (x : GVarDef) : gdVarDef x = (gd1 x.name ∧ (gdType x.t ∧ (gd1 x.has ∧ (gdValue x.default ∧ (True))))) := rfl
mutual
def bkSel : GSel → Nat
 | ⟨x0, x1, x2, x3, x4, x5, x6⟩ => (bk1 x0 + (bkStr x1 + (bkStr x2 + ((bkSl bkMember) x3 + ((bkSl bkDir) x4 + (bkStr x5 + ((bkSels x6 + 1) + (0)))))))) + 1
def bkSels : List GSel → Nat
 | [] => 0
 | x :: l => bkSel x + bkSels l
end
mutual
def gdSel : GSel → Prop
 | ⟨x0, x1, x2, x3, x4, x5, x6⟩ => (gdI .i64) x0 ∧ (gd1 x1 ∧ (gd1 x2 ∧ ((gdSl gdMember) x3 ∧ ((gdSl gdDir) x4 ∧ (gd1 x5 ∧ (gdSels x6 ∧ (True)))))))
def gdSels : List GSel → Prop
 | [] => True
 | x :: l => gdSel x ∧ gdSels l
end
theorem bkSels_eq : ∀ (l : List GSel), bkSels l = sumL bkSel l
 | [] => by simp only [bkSels, sumL]
 | x :: l => by simp only [bkSels, sumL, bkSels_eq l]
theorem gdSels_eq : ∀ (l : List GSel), gdSels l = gdSl gdSel l
 | [] => by simp [gdSels, gdSl]
 | x :: l => by simp [gdSels, gdSl, gdSels_eq l]
theorem bkSel_eq (x : GSel) : bkSel x = (bk1 x.kind + (bkStr x.alias + (bkStr x.name + ((bkSl bkMember) x.args + ((bkSl bkDir) x.dirs + (bkStr x.on_ + ((bkSl bkSel) x.sels + (0)))))))) + 1 := by
 cases x; simp only [bkSel, bkSl, bkSels_eq]
theorem gdSel_eq (x : GSel) : gdSel x = ((gdI .i64) x.kind ∧ (gd1 x.alias ∧ (gd1 x.name ∧ ((gdSl gdMember) x.args ∧ ((gdSl gdDir) x.dirs ∧ (gd1 x.on_ ∧ ((gdSl gdSel) x.sels ∧ (True)))))))) := by
 cases x; simp only [gdSel, gdSels_eq]
def bkOp (x : GOp) : Nat := (bk1 x.kind + (bkStr x.name + ((bkSl bkVarDef) x.vars + ((bkSl bkDir) x.dirs + ((bkSl bkSel) x.sels + (0)))))) + 1
def gdOp (x : GOp) : Prop := (gdI .i64) x.kind ∧ (gd1 x.name ∧ ((gdSl gdVarDef) x.vars ∧ ((gdSl gdDir) x.dirs ∧ ((gdSl gdSel) x.sels ∧ (True)))))
theorem bkOp_eq (x : GOp) : bkOp x = (bk1 x.kind + (bkStr x.name + ((bkSl bkVarDef) x.vars + ((bkSl bkDir) x.dirs + ((bkSl bkSel) x.sels + (0)))))) + 1 := rfl
theorem gdOp_eq (x : GOp) : gdOp x = ((gdI .i64) x.kind ∧ (gd1 x.name ∧ ((gdSl gdVarDef) x.vars ∧ ((gdSl gdDir) x.dirs ∧ ((gdSl gdSel) x.sels ∧ (True)))))) := rfl
def bkFrag (x : GFrag) : Nat := (bkStr x.name + (bkStr x.on_ + ((bkSl bkDir) x.dirs + ((bkSl bkSel) x.sels + (0))))) + 1
def gdFrag (x : GFrag) : Prop := gd1 x.name ∧ (gd1 x.on_ ∧ ((gdSl gdDir) x.dirs ∧ ((gdSl gdSel) x.sels ∧ (True))))
theorem bkFrag_eq (x : GFrag) : bkFrag x = (bkStr x.name + (bkStr x.on_ + ((bkSl bkDir) x.dirs + ((bkSl bkSel) x.sels + (0))))) + 1 := rfl
theorem gdFrag_eq (x : GFrag) : gdFrag x = (gd1 x.name ∧ (gd1 x.on_ ∧ ((gdSl gdDir) x.dirs ∧ ((gdSl gdSel) x.sels ∧ (True))))) := rfl
def bkDoc (x : GDoc) : Nat := ((bkSl bkOp) x.ops + ((bkSl bkFrag) x.frags + (0))) + 1
def gdDoc (x : GDoc) : Prop := (gdSl gdOp) x.ops ∧ ((gdSl gdFrag) x.frags ∧ (True))
theorem bkDoc_eq (x : GDoc) : bkDoc x = ((bkSl bkOp) x.ops + ((bkSl bkFrag) x.frags + (0))) + 1 := rfl
theorem gdDoc_eq (x : GDoc) : gdDoc x = ((gdSl gdOp) x.ops ∧ ((gdSl gdFrag) x.frags ∧ (True))) := rfl
def TS : Nat → TypeId
 | 0 => 67
 | 1 => 35
 | 2 => 54
 | 3 => 127
 | 4 => 56
 | 5 => 102
 | 6 => 98
 | 7 => 24
 | 8 => 109
 | 9 => 41
 | 10 => 106
 | 11 => 60
 | _ => 28
def BS : Nat → Ty
 | 0 => (.fcons .str (.fcons (.int .i64) (.fcons (.int .i64) .fnil)))
 | 1 => (.fcons (.int .i64) (.fcons (.int .i64) (.fcons .str (.fcons (.sl (.ext 1)) (.fcons (.sl (.ext 2)) .fnil)))))
 | 2 => (.fcons .str (.fcons (.ext 1) .fnil))
 | 3 => (.fcons .str (.fcons (.ext 0) (.fcons .bool (.fcons (.ext 1) .fnil))))
 | 4 => (.fcons .str (.fcons (.sl (.ext 2)) .fnil))
 | 5 => (.fcons .str (.fcons (.sl (.ext 3)) (.fcons (.ext 0) (.fcons (.sl (.ext 4)) .fnil))))
 | 6 => (.fcons (.int .i64) (.fcons .str (.fcons (.sl .str) (.fcons (.sl (.ext 5)) (.fcons (.sl .str) (.fcons (.sl (.ext 3)) .fnil))))))
 | 7 => (.fcons (.sl (.ext 6)) (.fcons .str (.fcons .str .fnil)))
 | 8 => (.fcons .str (.fcons (.ext 0) (.fcons .bool (.fcons (.ext 1) .fnil))))
 | 9 => (.fcons (.int .i64) (.fcons .str (.fcons .str (.fcons (.sl (.ext 2)) (.fcons (.sl (.ext 4)) (.fcons .str (.fcons (.sl (.ext 9)) .fnil)))))))
 | 10 => (.fcons (.int .i64) (.fcons .str (.fcons (.sl (.ext 8)) (.fcons (.sl (.ext 4)) (.fcons (.sl (.ext 9)) .fnil)))))
 | 11 => (.fcons .str (.fcons .str (.fcons (.sl (.ext 4)) (.fcons (.sl (.ext 9)) .fnil))))
 | _ => (.fcons (.sl (.ext 10)) (.fcons (.sl (.ext 11)) .fnil))
abbrev recType : RecTy := ⟨GType, encType, 3, bkType, gdType, fun x => wf_agg _ (encType_eq x) rfl rfl⟩
abbrev recValue : RecTy := ⟨GValue, encValue, 5, bkValue, gdValue, fun x => wf_agg _ (encValue_eq x) rfl rfl⟩
abbrev recMember : RecTy := ⟨GMember, encMember, 6, bkMember, gdMember, fun x => wf_agg _ (encMember_eq x) rfl rfl⟩
abbrev recParam : RecTy := ⟨GParam, encParam, 10, bkParam, gdParam, fun x => wf_agg _ (encParam_eq x) rfl rfl⟩
abbrev recDir : RecTy := ⟨GDir, encDir, 2, bkDir, gdDir, fun x => wf_agg _ (encDir_eq x) rfl rfl⟩
abbrev recFieldDef : RecTy := ⟨GFieldDef, encFieldDef, 6, bkFieldDef, gdFieldDef, fun x => wf_agg _ (encFieldDef_eq x) rfl rfl⟩
abbrev recDef : RecTy := ⟨GDef, encDef, 6, bkDef, gdDef, fun x => wf_agg _ (encDef_eq x) rfl rfl⟩
abbrev recSchema : RecTy := ⟨GSchema, encSchema, 3, bkSchema, gdSchema, fun x => wf_agg _ (encSchema_eq x) rfl rfl⟩
abbrev recVarDef : RecTy := ⟨GVarDef, encVarDef, 10, bkVarDef, gdVarDef, fun x => wf_agg _ (encVarDef_eq x) rfl rfl⟩
abbrev recSel : RecTy := ⟨GSel, encSel, 7, bkSel, gdSel, fun x => wf_agg _ (encSel_eq x) rfl rfl⟩
abbrev recOp : RecTy := ⟨GOp, encOp, 5, bkOp, gdOp, fun x => wf_agg _ (encOp_eq x) rfl rfl⟩
abbrev recFrag : RecTy := ⟨GFrag, encFrag, 4, bkFrag, gdFrag, fun x => wf_agg _ (encFrag_eq x) rfl rfl⟩
abbrev recDoc : RecTy := ⟨GDoc, encDoc, 2, bkDoc, gdDoc, fun x => wf_agg _ (encDoc_eq x) rfl rfl⟩
abbrev RS : REnv
 | 0 => recType
 | 1 => recValue
 | 2 => recMember
 | 3 => recParam
 | 4 => recDir
 | 5 => recFieldDef
 | 6 => recDef
 | 7 => recSchema
 | 8 => recVarDef
 | 9 => recSel
 | 10 => recOp
 | 11 => recFrag
 | _ => recDoc
theorem hty : ∀ i, ∃ F, Try.prog.underlying (TS i) = some (.struct F) ∧ Try.prog.cellsOf (TS i) = (BS i).size RS ∧ flds RS Try.prog (tyOk RS TS Try.prog 9) F.toList 0 (BS i) = true
 | 0 => ⟨_, Try.underlying67, by kernel_rfl, by kernel_rfl⟩
 | 1 => ⟨_, Try.underlying35, by kernel_rfl, by kernel_rfl⟩
 | 2 => ⟨_, Try.underlying54, by kernel_rfl, by kernel_rfl⟩
 | 3 => ⟨_, Try.underlying127, by kernel_rfl, by kernel_rfl⟩
 | 4 => ⟨_, Try.underlying56, by kernel_rfl, by kernel_rfl⟩
 | 5 => ⟨_, Try.underlying102, by kernel_rfl, by kernel_rfl⟩
 | 6 => ⟨_, Try.underlying98, by kernel_rfl, by kernel_rfl⟩
 | 7 => ⟨_, Try.underlying24, by kernel_rfl, by kernel_rfl⟩
 | 8 => ⟨_, Try.underlying109, by kernel_rfl, by kernel_rfl⟩
 | 9 => ⟨_, Try.underlying41, by kernel_rfl, by kernel_rfl⟩
 | 10 => ⟨_, Try.underlying106, by kernel_rfl, by kernel_rfl⟩
 | 11 => ⟨_, Try.underlying60, by kernel_rfl, by kernel_rfl⟩
 | _ + 12 => ⟨_, Try.underlying28, by kernel_rfl, by kernel_rfl⟩
theorem cvType (x0 : Str) (x1 : Int) (x2 : Int) : encType ⟨x0, x1, x2⟩ = (PV.agg ((PV.str x0).cells ++ (PV.agg (((PV.int .i64) x1).cells ++ (PV.agg (((PV.int .i64) x2).cells ++ (PV.agg []).cells)).cells)).cells)) := by
 simp only [tys, cells, List.cons_append, List.nil_append]
theorem cvValue (x0 : Int) (x1 : Int) (x2 : Str) (x3 : List GValue) (x4 : List GMember) : encValue ⟨x0, x1, x2, x3, x4⟩ = (PV.agg (((PV.int .i64) x0).cells ++ (PV.agg (((PV.int .i64) x1).cells ++ (PV.agg ((PV.str x2).cells ++ (PV.agg ((PV.slice (List.map encValue x3) [] false).cells ++ (PV.agg ((PV.slice (List.map encMember x4) [] false).cells ++ (PV.agg []).cells)).cells)).cells)).cells)).cells)) := by
 simp only [tys, cells, List.cons_append, List.nil_append]
theorem cvMember (x0 : Str) (x1 : GValue) : encMember ⟨x0, x1⟩ = (PV.agg ((PV.str x0).cells ++ (PV.agg ((encValue x1).cells ++ (PV.agg []).cells)).cells)) := by
 simp only [tys, cells, List.cons_append, List.nil_append]
theorem cvParam (x0 : Str) (x1 : GType) (x2 : Bool) (x3 : GValue) : encParam ⟨x0, x1, x2, x3⟩ = (PV.agg ((PV.str x0).cells ++ (PV.agg ((encType x1).cells ++ (PV.agg ((PV.bool x2).cells ++ (PV.agg ((encValue x3).cells ++ (PV.agg []).cells)).cells)).cells)).cells)) := by
 simp only [tys, cells, List.cons_append, List.nil_append]
theorem cvDir (x0 : Str) (x1 : List GMember) : encDir ⟨x0, x1⟩ = (PV.agg ((PV.str x0).cells ++ (PV.agg ((PV.slice (List.map encMember x1) [] false).cells ++ (PV.agg []).cells)).cells)) := by
 simp only [tys, cells, List.cons_append, List.nil_append]
theorem cvFieldDef (x0 : Str) (x1 : List GParam) (x2 : GType) (x3 : List GDir) : encFieldDef ⟨x0, x1, x2, x3⟩ = (PV.agg ((PV.str x0).cells ++ (PV.agg ((PV.slice (List.map encParam x1) [] false).cells ++ (PV.agg ((encType x2).cells ++ (PV.agg ((PV.slice (List.map encDir x3) [] false).cells ++ (PV.agg []).cells)).cells)).cells)).cells)) := by
 simp only [tys, cells, List.cons_append, List.nil_append]
theorem cvDef (x0 : Int) (x1 : Str) (x2 : List Str) (x3 : List GFieldDef) (x4 : List Str) (x5 : List GParam) : encDef ⟨x0, x1, x2, x3, x4, x5⟩ = (PV.agg (((PV.int .i64) x0).cells ++ (PV.agg ((PV.str x1).cells ++ (PV.agg ((PV.slice (List.map PV.str x2) [] false).cells ++ (PV.agg ((PV.slice (List.map encFieldDef x3) [] false).cells ++ (PV.agg ((PV.slice (List.map PV.str x4) [] false).cells ++ (PV.agg ((PV.slice (List.map encParam x5) [] false).cells ++ (PV.agg []).cells)).cells)).cells)).cells)).cells)).cells)) := by
 simp only [tys, cells, List.cons_append, List.nil_append]
theorem cvSchema (x0 : List GDef) (x1 : Str) (x2 : Str) : encSchema ⟨x0, x1, x2⟩ = (PV.agg ((PV.slice (List.map encDef x0) [] false).cells ++ (PV.agg ((PV.str x1).cells ++ (PV.agg ((PV.str x2).cells ++ (PV.agg []).cells)).cells)).cells)) := by
 simp only [tys, cells, List.cons_append, List.nil_append]
theorem cvVarDef (x0 : Str) (x1 : GType) (x2 : Bool) (x3 : GValue) : encVarDef ⟨x0, x1, x2, x3⟩ = (PV.agg ((PV.str x0).cells ++ (PV.agg ((encType x1).cells ++ (PV.agg ((PV.bool x2).cells ++ (PV.agg ((encValue x3).cells ++ (PV.agg []).cells)).cells)).cells)).cells)) := by
 simp only [tys, cells, List.cons_append, List.nil_append]
theorem cvSel (x0 : Int) (x1 : Str) (x2 : Str) (x3 : List GMember) (x4 : List GDir) (x5 : Str) (x6 : List GSel) : encSel ⟨x0, x1, x2, x3, x4, x5, x6⟩ = (PV.agg (((PV.int .i64) x0).cells ++ (PV.agg ((PV.str x1).cells ++ (PV.agg ((PV.str x2).cells ++ (PV.agg ((PV.slice (List.map encMember x3) [] false).cells ++ (PV.agg ((PV.slice (List.map encDir x4) [] false).cells ++ (PV.agg ((PV.str x5).cells ++ (PV.agg ((PV.slice (List.map encSel x6) [] false).cells ++ (PV.agg []).cells)).cells)).cells)).cells)).cells)).cells)).cells)) := by
 simp only [tys, cells, List.cons_append, List.nil_append]
theorem cvOp (x0 : Int) (x1 : Str) (x2 : List GVarDef) (x3 : List GDir) (x4 : List GSel) : encOp ⟨x0, x1, x2, x3, x4⟩ = (PV.agg (((PV.int .i64) x0).cells ++ (PV.agg ((PV.str x1).cells ++ (PV.agg ((PV.slice (List.map encVarDef x2) [] false).cells ++ (PV.agg ((PV.slice (List.map encDir x3) [] false).cells ++ (PV.agg ((PV.slice (List.map encSel x4) [] false).cells ++ (PV.agg []).cells)).cells)).cells)).cells)).cells)) := by
 simp only [tys, cells, List.cons_append, List.nil_append]
theorem cvFrag (x0 : Str) (x1 : Str) (x2 : List GDir) (x3 : List GSel) : encFrag ⟨x0, x1, x2, x3⟩ = (PV.agg ((PV.str x0).cells ++ (PV.agg ((PV.str x1).cells ++ (PV.agg ((PV.slice (List.map encDir x2) [] false).cells ++ (PV.agg ((PV.slice (List.map encSel x3) [] false).cells ++ (PV.agg []).cells)).cells)).cells)).cells)) := by
 simp only [tys, cells, List.cons_append, List.nil_append]
theorem cvDoc (x0 : List GOp) (x1 : List GFrag) : encDoc ⟨x0, x1⟩ = (PV.agg ((PV.slice (List.map encOp x0) [] false).cells ++ (PV.agg ((PV.slice (List.map encFrag x1) [] false).cells ++ (PV.agg []).cells)).cells)) := by
 simp only [tys, cells, List.cons_append, List.nil_append]
theorem hcv : ∀ i (x : (BS i).den RS), ∃ y : (RS i).D, (RS i).en y = enc RS (BS i) x ∧ (RS i).bk y ≤ bulk RS (BS i) x + 1 ∧ (good RS (BS i) x → (RS i).gd y)
 | 0, ⟨x0, x1, x2, _⟩ => ⟨(⟨x0, x1, x2⟩ : GType), (cvType x0 x1 x2).trans rfl, Nat.le_of_eq ((bkType_eq _).trans rfl), fun h => (gdType_eq _).mpr h⟩
 | 1, ⟨x0, x1, x2, x3, x4, _⟩ => ⟨(⟨x0, x1, x2, x3, x4⟩ : GValue), (cvValue x0 x1 x2 x3 x4).trans rfl, Nat.le_of_eq ((bkValue_eq _).trans rfl), fun h => (gdValue_eq _).mpr h⟩
 | 2, ⟨x0, x1, _⟩ => ⟨(⟨x0, x1⟩ : GMember), (cvMember x0 x1).trans rfl, Nat.le_of_eq ((bkMember_eq _).trans rfl), fun h => (gdMember_eq _).mpr h⟩
 | 3, ⟨x0, x1, x2, x3, _⟩ => ⟨(⟨x0, x1, x2, x3⟩ : GParam), (cvParam x0 x1 x2 x3).trans rfl, Nat.le_of_eq ((bkParam_eq _).trans rfl), fun h => (gdParam_eq _).mpr h⟩
 | 4, ⟨x0, x1, _⟩ => ⟨(⟨x0, x1⟩ : GDir), (cvDir x0 x1).trans rfl, Nat.le_of_eq ((bkDir_eq _).trans rfl), fun h => (gdDir_eq _).mpr h⟩
 | 5, ⟨x0, x1, x2, x3, _⟩ => ⟨(⟨x0, x1, x2, x3⟩ : GFieldDef), (cvFieldDef x0 x1 x2 x3).trans rfl, Nat.le_of_eq ((bkFieldDef_eq _).trans rfl), fun h => (gdFieldDef_eq _).mpr h⟩
 | 6, ⟨x0, x1, x2, x3, x4, x5, _⟩ => ⟨(⟨x0, x1, x2, x3, x4, x5⟩ : GDef), (cvDef x0 x1 x2 x3 x4 x5).trans rfl, Nat.le_of_eq ((bkDef_eq _).trans rfl), fun h => (gdDef_eq _).mpr h⟩
 | 7, ⟨x0, x1, x2, _⟩ => ⟨(⟨x0, x1, x2⟩ : GSchema), (cvSchema x0 x1 x2).trans rfl, Nat.le_of_eq ((bkSchema_eq _).trans rfl), fun h => (gdSchema_eq _).mpr h⟩
 | 8, ⟨x0, x1, x2, x3, _⟩ => ⟨(⟨x0, x1, x2, x3⟩ : GVarDef), (cvVarDef x0 x1 x2 x3).trans rfl, Nat.le_of_eq ((bkVarDef_eq _).trans rfl), fun h => (gdVarDef_eq _).mpr h⟩
 | 9, ⟨x0, x1, x2, x3, x4, x5, x6, _⟩ => ⟨(⟨x0, x1, x2, x3, x4, x5, x6⟩ : GSel), (cvSel x0 x1 x2 x3 x4 x5 x6).trans rfl, Nat.le_of_eq ((bkSel_eq _).trans rfl), fun h => (gdSel_eq _).mpr h⟩
 | 10, ⟨x0, x1, x2, x3, x4, _⟩ => ⟨(⟨x0, x1, x2, x3, x4⟩ : GOp), (cvOp x0 x1 x2 x3 x4).trans rfl, Nat.le_of_eq ((bkOp_eq _).trans rfl), fun h => (gdOp_eq _).mpr h⟩
 | 11, ⟨x0, x1, x2, x3, _⟩ => ⟨(⟨x0, x1, x2, x3⟩ : GFrag), (cvFrag x0 x1 x2 x3).trans rfl, Nat.le_of_eq ((bkFrag_eq _).trans rfl), fun h => (gdFrag_eq _).mpr h⟩
 | _ + 12, ⟨x0, x1, _⟩ => ⟨(⟨x0, x1⟩ : GDoc), (cvDoc x0 x1).trans rfl, Nat.le_of_eq ((bkDoc_eq _).trans rfl), fun h => (gdDoc_eq _).mpr h⟩
theorem rok {H : Type} (e : TypeId × Value → H) (W : World) {bl : DataW H → Nat} {bla : List (DataW H) → Nat} (hb : BlOk bl bla) : ROk RS TS e Try.prog W bl where
 op := open_ext hb 9 BS hty hcv
 ag := fun i => match i with
  | 0 => fun x => ⟨_, encType_eq x⟩
  | 1 => fun x => ⟨_, encValue_eq x⟩
  | 2 => fun x => ⟨_, encMember_eq x⟩
  | 3 => fun x => ⟨_, encParam_eq x⟩
  | 4 => fun x => ⟨_, encDir_eq x⟩
  | 5 => fun x => ⟨_, encFieldDef_eq x⟩
  | 6 => fun x => ⟨_, encDef_eq x⟩
  | 7 => fun x => ⟨_, encSchema_eq x⟩
  | 8 => fun x => ⟨_, encVarDef_eq x⟩
  | 9 => fun x => ⟨_, encSel_eq x⟩
  | 10 => fun x => ⟨_, encOp_eq x⟩
  | 11 => fun x => ⟨_, encFrag_eq x⟩
  | _ + 12 => fun x => ⟨_, encDoc_eq x⟩
 st := fun i => (hty i).imp fun F h => h.1
open Go Go.Ev
abbrev MArg := GSchema × GDoc × Int
def mWorld : GSchema := GSchema.mk [(GDef.mk 1 [81] ([] : List Str) [(GFieldDef.mk [98] ([] : List GParam) (GType.mk [73, 110, 116] 0 0) ([] : List GDir)), (GFieldDef.mk [99] ([] : List GParam) (GType.mk [73, 110, 116] 0 0) ([] : List GDir))] ([] : List Str) ([] : List GParam))] [81] []
def mDoc (n : Str) : GDoc := GDoc.mk [(GOp.mk 0 [] ([] : List GVarDef) ([] : List GDir) [(GSel.mk 0 [97] [98] ([] : List GMember) ([] : List GDir) [] ([] : List GSel)), (GSel.mk 0 [97] n ([] : List GMember) ([] : List GDir) [] ([] : List GSel))])] ([] : List GFrag)
def rulA : MArg → List PV := fun x => [(.agg [(.slice (List.map encDef x.1.defs) [] false), (.str x.1.query), (.str x.1.mutation)]), (.agg [(.slice (List.map encOp x.2.1.ops) [] false), (.slice (List.map encFrag x.2.1.frags) [] false)]), .int .i64 x.2.2]
def rulR : Bool → PV := fun b => .bool b
open Classical in
noncomputable def rulF : MArg → Option Bool := fun x => if x = (mWorld, mDoc [99], 24) then some false else if x = (mWorld, mDoc [98], 24) then some true else none
theorem rulA_inj (a b : MArg) (h : rulA a = rulA b) : a = b := by
 obtain ⟨⟨a1, a2, a3⟩, ⟨a4, a5⟩, a6⟩ := a
 obtain ⟨⟨b1, b2, b3⟩, ⟨b4, b5⟩, b6⟩ := b
 simp only [rulA, List.cons.injEq, PV.agg.injEq, PV.str.injEq, PV.int.injEq, and_true, true_and] at h
 obtain ⟨⟨h1, rfl, rfl⟩, ⟨h4, h5⟩, rfl⟩ := h
 have e1 := Ev.encSl_inj inj_GDef a1 b1 h1
 have e4 := Ev.encSl_inj inj_GOp a4 b4 h4
 have e5 := Ev.encSl_inj inj_GFrag a5 b5 h5
 subst e1 e4 e5
 rfl
theorem rulF_c : rulF (mWorld, mDoc [99], 24) = some false := by unfold rulF; rw [if_pos rfl]
theorem rulF_b : rulF (mWorld, mDoc [98], 24) = some true := by
 unfold rulF
 rw [if_neg ?_, if_pos rfl]
 intro h
 simp only [mDoc, Prod.mk.injEq, GDoc.mk.injEq, List.cons.injEq, GOp.mk.injEq, GSel.mk.injEq] at h
 simp at h
def MTL : List (Nat × Hints) := [(32, { takes := [], gens := [], keeps := [(2, [0, 1, 4, 9, 10, 11])], own := false, drop := true }),
 (10, { takes := [], gens := [], keeps := [], own := false, drop := true, vecs := [(81, 6)], frz := [(9, [9])] }),
 (34, { takes := [], gens := [], keeps := [], own := false, drop := true }),
 (76, { takes := [], gens := [], keeps := [], own := false, drop := true }),
 (93, { takes := [], gens := [], keeps := [], own := false, drop := true }),
 (46, { takes := [], gens := [16], keeps := [(2, [0, 1, 4, 7, 8])], own := false, drop := true }),
 (92, { takes := [], gens := [7], keeps := [], own := false, drop := true }),
 (79, { takes := [], gens := [6], keeps := [], own := false, drop := true }),
 (81, { takes := [], gens := [], keeps := [], own := false, drop := true }),
 (95, { takes := [], gens := [], keeps := [], own := false, drop := true }),
 (104, { takes := [], gens := [], keeps := [], own := false, drop := true }),
 (103, { takes := [], gens := [16], keeps := [(2, [0, 1, 4, 7, 8])], own := false, drop := true }),
 (100, { takes := [], gens := [42], keeps := [], own := false, drop := true }),
 (12, { takes := [], gens := [], keeps := [(3, [1, 3, 4]), (7, [1, 3, 5])], own := false, drop := true }),
 (29, { takes := [], gens := [], keeps := [], own := false, drop := true }),
 (30, { takes := [], gens := [], keeps := [(2, [0, 2, 3]), (5, [0, 2, 3, 4])], own := false, drop := true }),
 (57, { takes := [], gens := [], keeps := [(2, [0, 4, 5, 8, 9, 10])], own := false, drop := true }),
 (83, { takes := [], gens := [], keeps := [(4, [1, 2, 6, 15, 16, 17])], own := false, drop := true }),
 (84, { takes := [], gens := [], keeps := [(4, [1, 2, 6, 15, 16, 17])], own := false, drop := true }),
 (58, { takes := [], gens := [], keeps := [], own := false, drop := true }),
 (61, { takes := [], gens := [], keeps := [], own := false, drop := true }),
 (62, { takes := [], gens := [], keeps := [], own := false, drop := true }),
 (74, { takes := [], gens := [], keeps := [(4, [1, 4, 5, 13, 14, 15])], own := false, drop := true }),
 (90, { takes := [], gens := [], keeps := [], own := false, drop := true }),
 (94, { takes := [10, 28, 31], gens := [], keeps := [(4, [2, 5, 6])], own := false, drop := true }),
 (44, { takes := [], gens := [], keeps := [], own := false, drop := true }),
 (56, { takes := [], gens := [], keeps := [], own := false, drop := true }),
 (55, { takes := [60, 78], gens := [], keeps := [(6, [3, 4, 7, 8, 30, 31, 32]), (14, [3, 7, 8, 72, 73, 74]), (19, [6, 7, 89, 90, 91])], own := false, drop := true }),
 (21, { takes := [], gens := [], keeps := [], own := false, drop := true }),
 (85, { takes := [], gens := [], keeps := [], own := false, drop := true }),
 (89, { takes := [], gens := [], keeps := [], own := false, drop := true }),
 (98, { takes := [], gens := [], keeps := [(2, [0, 1, 4, 7, 8])], own := false, drop := true }),
 (99, { takes := [23, 28, 31, 33], gens := [], keeps := [(2, [0, 7, 8, 9])], own := true, drop := true }),
 (47, { takes := [], gens := [], keeps := [], own := false, drop := true }),
 (23, { takes := [], gens := [10], keeps := [], own := false, drop := true }),
 (73, { takes := [], gens := [], keeps := [(2, [0, 1, 4, 7, 8])], own := false, drop := true })]
def MT (f : FuncId) : Hints := match Go.Ev.look MTL f with | some m => m | none => {}
noncomputable def XT : Ext := fun f => Go.Ev.look [(55, (xSelf Try.prog (fun _ _ => none) 55 rulA rulR rulF))] f
noncomputable def O : Orc := OL Try.prog MT XT
def merge_Alike_i1E : Bool → PV := fun r => PV.bool r
theorem merge_Alike_i1Ej (a b : Bool) (h : merge_Alike_i1E a = merge_Alike_i1E b) : a = b := Ev.bool_inj a b h
noncomputable def merge_Alike_i1 : Option Bool := tO O 32 [(.slice [] [] true), (.slice [] [] true)] [] fun r => (merge_Alike_i1E r, [])
theorem merge_Alike_i1_spec {r : Bool} (h : merge_Alike_i1 = some r) : O 32 [(.slice [] [] true), (.slice [] [] true)] [] = some (merge_Alike_i1E r, []) := tO_spec (enc := fun r => (merge_Alike_i1E r, [])) h
def seinelaw19_MergeAlikeE : Bool → PV := fun r => PV.bool r
theorem seinelaw19_MergeAlikeEj (a b : Bool) (h : seinelaw19_MergeAlikeE a = seinelaw19_MergeAlikeE b) : a = b := Ev.bool_inj a b h
noncomputable def seinelaw19_MergeAlike (l0 : List GMember) (m : List GMember) (by0 : Int) : Option Bool := tO O 10 [(.slice (List.map encMember l0) [] false), (.slice (List.map encMember m) [] false), (.int .i64 by0)] [] fun r => (seinelaw19_MergeAlikeE r, [])
theorem seinelaw19_MergeAlike_spec {l0 : List GMember} {m : List GMember} {by0 : Int} {r : Bool} (h : seinelaw19_MergeAlike l0 m by0 = some r) : O 10 [(.slice (List.map encMember l0) [] false), (.slice (List.map encMember m) [] false), (.int .i64 by0)] [] = some (seinelaw19_MergeAlikeE r, []) := tO_spec (enc := fun r => (seinelaw19_MergeAlikeE r, [])) h
def merge_ShapeE : Bool → PV := fun r => PV.bool r
theorem merge_ShapeEj (a b : Bool) (h : merge_ShapeE a = merge_ShapeE b) : a = b := Ev.bool_inj a b h
noncomputable def merge_Shape (s : GSchema) (a : GType) (b : GType) : Option Bool := tO O 34 [(.agg [(.slice (List.map encDef s.defs) [] false), (.str s.query), (.str s.mutation)]), (.agg [(.str a.name), (.int .i64 a.lists), (.int .i64 a.musts)]), (.agg [(.str b.name), (.int .i64 b.lists), (.int .i64 b.musts)])] [] fun r => (merge_ShapeE r, [])
theorem merge_Shape_spec {s : GSchema} {a : GType} {b : GType} {r : Bool} (h : merge_Shape s a b = some r) : O 34 [(.agg [(.slice (List.map encDef s.defs) [] false), (.str s.query), (.str s.mutation)]), (.agg [(.str a.name), (.int .i64 a.lists), (.int .i64 a.musts)]), (.agg [(.str b.name), (.int .i64 b.lists), (.int .i64 b.musts)])] [] = some (merge_ShapeE r, []) := tO_spec (enc := fun r => (merge_ShapeE r, [])) h
def defs_KindE : Bool → PV := fun r => PV.bool r
theorem defs_KindEj (a b : Bool) (h : defs_KindE a = defs_KindE b) : a = b := Ev.bool_inj a b h
noncomputable def defs_Kind (s : GSchema) (name : Str) (kinds : List Int) : Option Bool := tO O 76 [(.agg [(.slice (List.map encDef s.defs) [] false), (.str s.query), (.str s.mutation)]), (.str name), (.slice (List.map (PV.int .i64) kinds) [] false)] [] fun r => (defs_KindE r, [])
theorem defs_Kind_spec {s : GSchema} {name : Str} {kinds : List Int} {r : Bool} (h : defs_Kind s name kinds = some r) : O 76 [(.agg [(.slice (List.map encDef s.defs) [] false), (.str s.query), (.str s.mutation)]), (.str name), (.slice (List.map (PV.int .i64) kinds) [] false)] [] = some (defs_KindE r, []) := tO_spec (enc := fun r => (defs_KindE r, [])) h
def fields_RootE : Str → PV := fun r => PV.str r
theorem fields_RootEj (a b : Str) (h : fields_RootE a = fields_RootE b) : a = b := Ev.str_inj a b h
noncomputable def fields_Root (s : GSchema) (o : GOp) : Option Str := tO O 81 [(.agg [(.slice (List.map encDef s.defs) [] false), (.str s.query), (.str s.mutation)]), (.agg [(.int .i64 o.kind), (.str o.name), (.slice (List.map encVarDef o.vars) [] false), (.slice (List.map encDir o.dirs) [] false), (.slice (List.map encSel o.sels) [] false)])] [] fun r => (fields_RootE r, [])
theorem fields_Root_spec {s : GSchema} {o : GOp} {r : Str} (h : fields_Root s o = some r) : O 81 [(.agg [(.slice (List.map encDef s.defs) [] false), (.str s.query), (.str s.mutation)]), (.agg [(.int .i64 o.kind), (.str o.name), (.slice (List.map encVarDef o.vars) [] false), (.slice (List.map encDir o.dirs) [] false), (.slice (List.map encSel o.sels) [] false)])] [] = some (fields_RootE r, []) := tO_spec (enc := fun r => (fields_RootE r, [])) h
def fields_WithinE : Str → PV := fun r => PV.str r
theorem fields_WithinEj (a b : Str) (h : fields_WithinE a = fields_WithinE b) : a = b := Ev.str_inj a b h
noncomputable def fields_Within (s : GSchema) (typ : Str) (x : GSel) : Option Str := tO O 95 [(.agg [(.slice (List.map encDef s.defs) [] false), (.str s.query), (.str s.mutation)]), (.str typ), (.agg [(.int .i64 x.kind), (.str x.alias), (.str x.name), (.slice (List.map encMember x.args) [] false), (.slice (List.map encDir x.dirs) [] false), (.str x.on_), (.slice (List.map encSel x.sels) [] false)])] [] fun r => (fields_WithinE r, [])
theorem fields_Within_spec {s : GSchema} {typ : Str} {x : GSel} {r : Str} (h : fields_Within s typ x = some r) : O 95 [(.agg [(.slice (List.map encDef s.defs) [] false), (.str s.query), (.str s.mutation)]), (.str typ), (.agg [(.int .i64 x.kind), (.str x.alias), (.str x.name), (.slice (List.map encMember x.args) [] false), (.slice (List.map encDir x.dirs) [] false), (.str x.on_), (.slice (List.map encSel x.sels) [] false)])] [] = some (fields_WithinE r, []) := tO_spec (enc := fun r => (fields_WithinE r, [])) h
def defs_Field_1E : Bool → PV := fun r => PV.bool r
def defs_Field_1U (f : GFieldDef) (u0_8 : GDef) (u0_6 : Str) (u0_60 : Str) (u0_600 : Int) (u0_6000 : Int) (u0_5 : Str) (u0_3 : GSchema) : Bool → UP := fun r => [[(8, [(.int .i64 u0_8.kind), (.str u0_8.name), (.slice (List.map PV.str u0_8.faces) [] false), (.slice (List.map encFieldDef u0_8.fields) [] false), (.slice (List.map PV.str u0_8.parts) [] false), (.slice (List.map encParam u0_8.params) [] false)]), (6, [(.str u0_6), (.slice [] [] true), (.str u0_60), (.int .i64 u0_600), (.int .i64 u0_6000), (.slice [] [] true)]), (5, [(.str u0_5)]), (3, [(.slice (List.map encDef u0_3.defs) [] false), (.str u0_3.query), (.str u0_3.mutation)])]]
theorem defs_Field_1Ej (a b : Bool) (h : defs_Field_1E a = defs_Field_1E b) : a = b := Ev.bool_inj a b h
noncomputable def defs_Field_1 (f : GFieldDef) (u0_8 : GDef) (u0_6 : Str) (u0_60 : Str) (u0_600 : Int) (u0_6000 : Int) (u0_5 : Str) (u0_3 : GSchema) : Option Bool := tO O 104 [(.agg [(.str f.name), (.slice (List.map encParam f.params) [] false), (.str f.t.name), (.int .i64 f.t.lists), (.int .i64 f.t.musts), (.slice (List.map encDir f.dirs) [] false)]), (.ptr 1 5 0)] [[(8, [(.int .i64 u0_8.kind), (.str u0_8.name), (.slice (List.map PV.str u0_8.faces) [] false), (.slice (List.map encFieldDef u0_8.fields) [] false), (.slice (List.map PV.str u0_8.parts) [] false), (.slice (List.map encParam u0_8.params) [] false)]), (6, [(.str u0_6), (.slice [] [] true), (.str u0_60), (.int .i64 u0_600), (.int .i64 u0_6000), (.slice [] [] true)]), (5, [(.str u0_5)]), (3, [(.slice (List.map encDef u0_3.defs) [] false), (.str u0_3.query), (.str u0_3.mutation)])]] fun r => (defs_Field_1E r, (defs_Field_1U f u0_8 u0_6 u0_60 u0_600 u0_6000 u0_5 u0_3 r))
theorem defs_Field_1_spec {f : GFieldDef} {u0_8 : GDef} {u0_6 : Str} {u0_60 : Str} {u0_600 : Int} {u0_6000 : Int} {u0_5 : Str} {u0_3 : GSchema} {r : Bool} (h : defs_Field_1 f u0_8 u0_6 u0_60 u0_600 u0_6000 u0_5 u0_3 = some r) : O 104 [(.agg [(.str f.name), (.slice (List.map encParam f.params) [] false), (.str f.t.name), (.int .i64 f.t.lists), (.int .i64 f.t.musts), (.slice (List.map encDir f.dirs) [] false)]), (.ptr 1 5 0)] [[(8, [(.int .i64 u0_8.kind), (.str u0_8.name), (.slice (List.map PV.str u0_8.faces) [] false), (.slice (List.map encFieldDef u0_8.fields) [] false), (.slice (List.map PV.str u0_8.parts) [] false), (.slice (List.map encParam u0_8.params) [] false)]), (6, [(.str u0_6), (.slice [] [] true), (.str u0_60), (.int .i64 u0_600), (.int .i64 u0_6000), (.slice [] [] true)]), (5, [(.str u0_5)]), (3, [(.slice (List.map encDef u0_3.defs) [] false), (.str u0_3.query), (.str u0_3.mutation)])]] = some (defs_Field_1E r, (defs_Field_1U f u0_8 u0_6 u0_60 u0_600 u0_6000 u0_5 u0_3 r)) := tO_spec (enc := fun r => (defs_Field_1E r, (defs_Field_1U f u0_8 u0_6 u0_60 u0_600 u0_6000 u0_5 u0_3 r))) h
def slices_IndexFunc_FieldDefE : Int → PV := fun r => (PV.int .i64) r
def slices_IndexFunc_FieldDefU (s : List GFieldDef) (u0_8 : GDef) (u0_6 : Str) (u0_60 : Str) (u0_600 : Int) (u0_6000 : Int) (u0_5 : Str) (u0_3 : GSchema) : Int → UP := fun r => [[(8, [(.int .i64 u0_8.kind), (.str u0_8.name), (.slice (List.map PV.str u0_8.faces) [] false), (.slice (List.map encFieldDef u0_8.fields) [] false), (.slice (List.map PV.str u0_8.parts) [] false), (.slice (List.map encParam u0_8.params) [] false)]), (6, [(.str u0_6), (.slice [] [] true), (.str u0_60), (.int .i64 u0_600), (.int .i64 u0_6000), (.slice [] [] true)]), (5, [(.str u0_5)]), (3, [(.slice (List.map encDef u0_3.defs) [] false), (.str u0_3.query), (.str u0_3.mutation)])]]
theorem slices_IndexFunc_FieldDefEj (a b : Int) (h : slices_IndexFunc_FieldDefE a = slices_IndexFunc_FieldDefE b) : a = b := (Ev.int_inj _) a b h
noncomputable def slices_IndexFunc_FieldDef (s : List GFieldDef) (u0_8 : GDef) (u0_6 : Str) (u0_60 : Str) (u0_600 : Int) (u0_6000 : Int) (u0_5 : Str) (u0_3 : GSchema) : Option Int := tO O 103 [(.slice (List.map encFieldDef s) [] false), (.func (.func 104) [] [(.ptr 1 5 0)])] [[(8, [(.int .i64 u0_8.kind), (.str u0_8.name), (.slice (List.map PV.str u0_8.faces) [] false), (.slice (List.map encFieldDef u0_8.fields) [] false), (.slice (List.map PV.str u0_8.parts) [] false), (.slice (List.map encParam u0_8.params) [] false)]), (6, [(.str u0_6), (.slice [] [] true), (.str u0_60), (.int .i64 u0_600), (.int .i64 u0_6000), (.slice [] [] true)]), (5, [(.str u0_5)]), (3, [(.slice (List.map encDef u0_3.defs) [] false), (.str u0_3.query), (.str u0_3.mutation)])]] fun r => (slices_IndexFunc_FieldDefE r, (slices_IndexFunc_FieldDefU s u0_8 u0_6 u0_60 u0_600 u0_6000 u0_5 u0_3 r))
theorem slices_IndexFunc_FieldDef_spec {s : List GFieldDef} {u0_8 : GDef} {u0_6 : Str} {u0_60 : Str} {u0_600 : Int} {u0_6000 : Int} {u0_5 : Str} {u0_3 : GSchema} {r : Int} (h : slices_IndexFunc_FieldDef s u0_8 u0_6 u0_60 u0_600 u0_6000 u0_5 u0_3 = some r) : O 103 [(.slice (List.map encFieldDef s) [] false), (.func (.func 104) [] [(.ptr 1 5 0)])] [[(8, [(.int .i64 u0_8.kind), (.str u0_8.name), (.slice (List.map PV.str u0_8.faces) [] false), (.slice (List.map encFieldDef u0_8.fields) [] false), (.slice (List.map PV.str u0_8.parts) [] false), (.slice (List.map encParam u0_8.params) [] false)]), (6, [(.str u0_6), (.slice [] [] true), (.str u0_60), (.int .i64 u0_600), (.int .i64 u0_6000), (.slice [] [] true)]), (5, [(.str u0_5)]), (3, [(.slice (List.map encDef u0_3.defs) [] false), (.str u0_3.query), (.str u0_3.mutation)])]] = some (slices_IndexFunc_FieldDefE r, (slices_IndexFunc_FieldDefU s u0_8 u0_6 u0_60 u0_600 u0_6000 u0_5 u0_3 r)) := tO_spec (enc := fun r => (slices_IndexFunc_FieldDefE r, (slices_IndexFunc_FieldDefU s u0_8 u0_6 u0_60 u0_600 u0_6000 u0_5 u0_3 r))) h
def defs_FieldE : (GFieldDef × Bool) → PV := fun r => .tuple [encFieldDef r.1, PV.bool r.2]
theorem defs_FieldEj (a b : GFieldDef × Bool) (h : defs_FieldE a = defs_FieldE b) : a = b := by
 simp only [defs_FieldE, PV.tuple.injEq, List.cons.injEq, and_true] at h
 exact Prod.ext (inj_GFieldDef _ _ h.1) (Ev.bool_inj _ _ h.2)
noncomputable def defs_Field (s : GSchema) (typ : Str) (name : Str) : Option (GFieldDef × Bool) := tO O 100 [(.agg [(.slice (List.map encDef s.defs) [] false), (.str s.query), (.str s.mutation)]), (.str typ), (.str name)] [] fun r => (defs_FieldE r, [])
theorem defs_Field_spec {s : GSchema} {typ : Str} {name : Str} {r : GFieldDef × Bool} (h : defs_Field s typ name = some r) : O 100 [(.agg [(.slice (List.map encDef s.defs) [] false), (.str s.query), (.str s.mutation)]), (.str typ), (.str name)] [] = some (defs_FieldE r, []) := tO_spec (enc := fun r => (defs_FieldE r, [])) h
def seinekeep_SizeE : Int → PV := fun r => (PV.int .i64) r
theorem seinekeep_SizeEj (a b : Int) (h : seinekeep_SizeE a = seinekeep_SizeE b) : a = b := (Ev.int_inj _) a b h
noncomputable def seinekeep_Size (v0 : GValue) : Option Int := tO O 12 [(.agg [(.int .i64 v0.kind), (.int .i64 v0.n), (.str v0.s), (.slice (List.map encValue v0.l) [] false), (.slice (List.map encMember v0.m) [] false)])] [] fun r => (seinekeep_SizeE r, [])
theorem seinekeep_Size_spec {v0 : GValue} {r : Int} (h : seinekeep_Size v0 = some r) : O 12 [(.agg [(.int .i64 v0.kind), (.int .i64 v0.n), (.str v0.s), (.slice (List.map encValue v0.l) [] false), (.slice (List.map encMember v0.m) [] false)])] [] = some (seinekeep_SizeE r, []) := tO_spec (enc := fun r => (seinekeep_SizeE r, [])) h
def seinelaw19_awakeE : Bool → PV := fun r => PV.bool r
theorem seinelaw19_awakeEj (a b : Bool) (h : seinelaw19_awakeE a = seinelaw19_awakeE b) : a = b := Ev.bool_inj a b h
noncomputable def seinelaw19_awake : Option Bool := tO O 29 [] [] fun r => (seinelaw19_awakeE r, [])
theorem seinelaw19_awake_spec {r : Bool} (h : seinelaw19_awake = some r) : O 29 [] [] = some (seinelaw19_awakeE r, []) := tO_spec (enc := fun r => (seinelaw19_awakeE r, [])) h
def seineref13_OnceE : Bool → PV := fun r => PV.bool r
theorem seineref13_OnceEj (a b : Bool) (h : seineref13_OnceE a = seineref13_OnceE b) : a = b := Ev.bool_inj a b h
noncomputable def seineref13_Once (m : List GMember) : Option Bool := tO O 30 [(.slice (List.map encMember m) [] false)] [] fun r => (seineref13_OnceE r, [])
theorem seineref13_Once_spec {m : List GMember} {r : Bool} (h : seineref13_Once m = some r) : O 30 [(.slice (List.map encMember m) [] false)] [] = some (seineref13_OnceE r, []) := tO_spec (enc := fun r => (seineref13_OnceE r, [])) h
def merge_AlikeE : Bool → PV := fun r => PV.bool r
theorem merge_AlikeEj (a b : Bool) (h : merge_AlikeE a = merge_AlikeE b) : a = b := Ev.bool_inj a b h
noncomputable def merge_Alike (a : List GMember) (b : List GMember) : Option Bool := tO O 32 [(.slice (List.map encMember a) [] false), (.slice (List.map encMember b) [] false)] [] fun r => (merge_AlikeE r, [])
theorem merge_Alike_spec {a : List GMember} {b : List GMember} {r : Bool} (h : merge_Alike a b = some r) : O 32 [(.slice (List.map encMember a) [] false), (.slice (List.map encMember b) [] false)] [] = some (merge_AlikeE r, []) := tO_spec (enc := fun r => (merge_AlikeE r, [])) h
def value_GetE : (GValue × Bool) → PV := fun r => .tuple [encValue r.1, PV.bool r.2]
theorem value_GetEj (a b : GValue × Bool) (h : value_GetE a = value_GetE b) : a = b := by
 simp only [value_GetE, PV.tuple.injEq, List.cons.injEq, and_true] at h
 exact Prod.ext (inj_GValue _ _ h.1) (Ev.bool_inj _ _ h.2)
noncomputable def value_Get (name : Str) (l0 : List GMember) : Option (GValue × Bool) := tO O 57 [(.str name), (.slice (List.map encMember l0) [] false)] [] fun r => (value_GetE r, [])
theorem value_Get_spec {name : Str} {l0 : List GMember} {r : GValue × Bool} (h : value_Get name l0 = some r) : O 57 [(.str name), (.slice (List.map encMember l0) [] false)] [] = some (value_GetE r, []) := tO_spec (enc := fun r => (value_GetE r, [])) h
def slices_EqualFunc_ValueE : Bool → PV := fun r => PV.bool r
theorem slices_EqualFunc_ValueEj (a b : Bool) (h : slices_EqualFunc_ValueE a = slices_EqualFunc_ValueE b) : a = b := Ev.bool_inj a b h
noncomputable def slices_EqualFunc_Value (s10 : List GValue) (s20 : List GValue) : Option Bool := tO O 83 [(.slice (List.map encValue s10) [] false), (.slice (List.map encValue s20) [] false), (.func (.func 58) [] [])] [] fun r => (slices_EqualFunc_ValueE r, [])
theorem slices_EqualFunc_Value_spec {s10 : List GValue} {s20 : List GValue} {r : Bool} (h : slices_EqualFunc_Value s10 s20 = some r) : O 83 [(.slice (List.map encValue s10) [] false), (.slice (List.map encValue s20) [] false), (.func (.func 58) [] [])] [] = some (slices_EqualFunc_ValueE r, []) := tO_spec (enc := fun r => (slices_EqualFunc_ValueE r, [])) h
def slices_EqualFunc_MemberE : Bool → PV := fun r => PV.bool r
theorem slices_EqualFunc_MemberEj (a b : Bool) (h : slices_EqualFunc_MemberE a = slices_EqualFunc_MemberE b) : a = b := Ev.bool_inj a b h
noncomputable def slices_EqualFunc_Member (s10 : List GMember) (s20 : List GMember) : Option Bool := tO O 84 [(.slice (List.map encMember s10) [] false), (.slice (List.map encMember s20) [] false), (.func (.func 85) [] [])] [] fun r => (slices_EqualFunc_MemberE r, [])
theorem slices_EqualFunc_Member_spec {s10 : List GMember} {s20 : List GMember} {r : Bool} (h : slices_EqualFunc_Member s10 s20 = some r) : O 84 [(.slice (List.map encMember s10) [] false), (.slice (List.map encMember s20) [] false), (.func (.func 85) [] [])] [] = some (slices_EqualFunc_MemberE r, []) := tO_spec (enc := fun r => (slices_EqualFunc_MemberE r, [])) h
def value_SameE : Bool → PV := fun r => PV.bool r
theorem value_SameEj (a b : Bool) (h : value_SameE a = value_SameE b) : a = b := Ev.bool_inj a b h
noncomputable def value_Same (a : GValue) (b : GValue) : Option Bool := tO O 58 [(.agg [(.int .i64 a.kind), (.int .i64 a.n), (.str a.s), (.slice (List.map encValue a.l) [] false), (.slice (List.map encMember a.m) [] false)]), (.agg [(.int .i64 b.kind), (.int .i64 b.n), (.str b.s), (.slice (List.map encValue b.l) [] false), (.slice (List.map encMember b.m) [] false)])] [] fun r => (value_SameE r, [])
theorem value_Same_spec {a : GValue} {b : GValue} {r : Bool} (h : value_Same a b = some r) : O 58 [(.agg [(.int .i64 a.kind), (.int .i64 a.n), (.str a.s), (.slice (List.map encValue a.l) [] false), (.slice (List.map encMember a.m) [] false)]), (.agg [(.int .i64 b.kind), (.int .i64 b.n), (.str b.s), (.slice (List.map encValue b.l) [] false), (.slice (List.map encMember b.m) [] false)])] [] = some (value_SameE r, []) := tO_spec (enc := fun r => (value_SameE r, [])) h
def defs_LeafE : Bool → PV := fun r => PV.bool r
theorem defs_LeafEj (a b : Bool) (h : defs_LeafE a = defs_LeafE b) : a = b := Ev.bool_inj a b h
noncomputable def defs_Leaf (s : GSchema) (name : Str) : Option Bool := tO O 61 [(.agg [(.slice (List.map encDef s.defs) [] false), (.str s.query), (.str s.mutation)]), (.str name)] [] fun r => (defs_LeafE r, [])
theorem defs_Leaf_spec {s : GSchema} {name : Str} {r : Bool} (h : defs_Leaf s name = some r) : O 61 [(.agg [(.slice (List.map encDef s.defs) [] false), (.str s.query), (.str s.mutation)]), (.str name)] [] = some (defs_LeafE r, []) := tO_spec (enc := fun r => (defs_LeafE r, [])) h
def defs_CompositeE : Bool → PV := fun r => PV.bool r
theorem defs_CompositeEj (a b : Bool) (h : defs_CompositeE a = defs_CompositeE b) : a = b := Ev.bool_inj a b h
noncomputable def defs_Composite (s : GSchema) (name : Str) : Option Bool := tO O 62 [(.agg [(.slice (List.map encDef s.defs) [] false), (.str s.query), (.str s.mutation)]), (.str name)] [] fun r => (defs_CompositeE r, [])
theorem defs_Composite_spec {s : GSchema} {name : Str} {r : Bool} (h : defs_Composite s name = some r) : O 62 [(.agg [(.slice (List.map encDef s.defs) [] false), (.str s.query), (.str s.mutation)]), (.str name)] [] = some (defs_CompositeE r, []) := tO_spec (enc := fun r => (defs_CompositeE r, [])) h
def defs_FindE : (GDef × Bool) → PV := fun r => .tuple [encDef r.1, PV.bool r.2]
theorem defs_FindEj (a b : GDef × Bool) (h : defs_FindE a = defs_FindE b) : a = b := by
 simp only [defs_FindE, PV.tuple.injEq, List.cons.injEq, and_true] at h
 exact Prod.ext (inj_GDef _ _ h.1) (Ev.bool_inj _ _ h.2)
noncomputable def defs_Find (s : GSchema) (name : Str) : Option (GDef × Bool) := tO O 74 [(.agg [(.slice (List.map encDef s.defs) [] false), (.str s.query), (.str s.mutation)]), (.str name)] [] fun r => (defs_FindE r, [])
theorem defs_Find_spec {s : GSchema} {name : Str} {r : GDef × Bool} (h : defs_Find s name = some r) : O 74 [(.agg [(.slice (List.map encDef s.defs) [] false), (.str s.query), (.str s.mutation)]), (.str name)] [] = some (defs_FindE r, []) := tO_spec (enc := fun r => (defs_FindE r, [])) h
def slices_Contains_int_intE : Bool → PV := fun r => PV.bool r
theorem slices_Contains_int_intEj (a b : Bool) (h : slices_Contains_int_intE a = slices_Contains_int_intE b) : a = b := Ev.bool_inj a b h
noncomputable def slices_Contains_int_int (s : List Int) (v0 : Int) : Option Bool := tO O 90 [(.slice (List.map (PV.int .i64) s) [] false), (.int .i64 v0)] [] fun r => (slices_Contains_int_intE r, [])
theorem slices_Contains_int_int_spec {s : List Int} {v0 : Int} {r : Bool} (h : slices_Contains_int_int s v0 = some r) : O 90 [(.slice (List.map (PV.int .i64) s) [] false), (.int .i64 v0)] [] = some (slices_Contains_int_intE r, []) := tO_spec (enc := fun r => (slices_Contains_int_intE r, [])) h
def seinelaw19_worldE : GSchema → PV := fun r => encSchema r
theorem seinelaw19_worldEj (a b : GSchema) (h : seinelaw19_worldE a = seinelaw19_worldE b) : a = b := inj_GSchema a b h
noncomputable def seinelaw19_world : Option GSchema := tO O 56 [] [] fun r => (seinelaw19_worldE r, [])
theorem seinelaw19_world_spec {r : GSchema} (h : seinelaw19_world = some r) : O 56 [] [] = some (seinelaw19_worldE r, []) := tO_spec (enc := fun r => (seinelaw19_worldE r, [])) h
def merge_RuleE : Bool → PV := fun r => PV.bool r
theorem merge_RuleEj (a b : Bool) (h : merge_RuleE a = merge_RuleE b) : a = b := Ev.bool_inj a b h
noncomputable def merge_Rule (s : GSchema) (d : GDoc) (n : Int) : Option Bool := tO O 55 [(.agg [(.slice (List.map encDef s.defs) [] false), (.str s.query), (.str s.mutation)]), (.agg [(.slice (List.map encOp d.ops) [] false), (.slice (List.map encFrag d.frags) [] false)]), (.int .i64 n)] [] fun r => (merge_RuleE r, [])
theorem merge_Rule_spec {s : GSchema} {d : GDoc} {n : Int} {r : Bool} (h : merge_Rule s d n = some r) : O 55 [(.agg [(.slice (List.map encDef s.defs) [] false), (.str s.query), (.str s.mutation)]), (.agg [(.slice (List.map encOp d.ops) [] false), (.slice (List.map encFrag d.frags) [] false)]), (.int .i64 n)] [] = some (merge_RuleE r, []) := tO_spec (enc := fun r => (merge_RuleE r, [])) h
def merge_KeyE : Str → PV := fun r => PV.str r
theorem merge_KeyEj (a b : Str) (h : merge_KeyE a = merge_KeyE b) : a = b := Ev.str_inj a b h
noncomputable def merge_Key (x : GSel) : Option Str := tO O 21 [(.agg [(.int .i64 x.kind), (.str x.alias), (.str x.name), (.slice (List.map encMember x.args) [] false), (.slice (List.map encDir x.dirs) [] false), (.str x.on_), (.slice (List.map encSel x.sels) [] false)])] [] fun r => (merge_KeyE r, [])
theorem merge_Key_spec {x : GSel} {r : Str} (h : merge_Key x = some r) : O 21 [(.agg [(.int .i64 x.kind), (.str x.alias), (.str x.name), (.slice (List.map encMember x.args) [] false), (.slice (List.map encDir x.dirs) [] false), (.str x.on_), (.slice (List.map encSel x.sels) [] false)])] [] = some (merge_KeyE r, []) := tO_spec (enc := fun r => (merge_KeyE r, [])) h
def value_Same_1E : Bool → PV := fun r => PV.bool r
theorem value_Same_1Ej (a b : Bool) (h : value_Same_1E a = value_Same_1E b) : a = b := Ev.bool_inj a b h
noncomputable def value_Same_1 (x : GMember) (y : GMember) : Option Bool := tO O 85 [(.agg [(.str x.name), (.int .i64 x.v.kind), (.int .i64 x.v.n), (.str x.v.s), (.slice (List.map encValue x.v.l) [] false), (.slice (List.map encMember x.v.m) [] false)]), (.agg [(.str y.name), (.int .i64 y.v.kind), (.int .i64 y.v.n), (.str y.v.s), (.slice (List.map encValue y.v.l) [] false), (.slice (List.map encMember y.v.m) [] false)])] [] fun r => (value_Same_1E r, [])
theorem value_Same_1_spec {x : GMember} {y : GMember} {r : Bool} (h : value_Same_1 x y = some r) : O 85 [(.agg [(.str x.name), (.int .i64 x.v.kind), (.int .i64 x.v.n), (.str x.v.s), (.slice (List.map encValue x.v.l) [] false), (.slice (List.map encMember x.v.m) [] false)]), (.agg [(.str y.name), (.int .i64 y.v.kind), (.int .i64 y.v.n), (.str y.v.s), (.slice (List.map encValue y.v.l) [] false), (.slice (List.map encMember y.v.m) [] false)])] [] = some (value_Same_1E r, []) := tO_spec (enc := fun r => (value_Same_1E r, [])) h
def defs_scalarE : Bool → PV := fun r => PV.bool r
theorem defs_scalarEj (a b : Bool) (h : defs_scalarE a = defs_scalarE b) : a = b := Ev.bool_inj a b h
noncomputable def defs_scalar (name : Str) : Option Bool := tO O 89 [(.str name)] [] fun r => (defs_scalarE r, [])
theorem defs_scalar_spec {name : Str} {r : Bool} (h : defs_scalar name = some r) : O 89 [(.str name)] [] = some (defs_scalarE r, []) := tO_spec (enc := fun r => (defs_scalarE r, [])) h
def slices_Index_int_intE : Int → PV := fun r => (PV.int .i64) r
theorem slices_Index_int_intEj (a b : Int) (h : slices_Index_int_intE a = slices_Index_int_intE b) : a = b := (Ev.int_inj _) a b h
noncomputable def slices_Index_int_int (s : List Int) (v0 : Int) : Option Int := tO O 98 [(.slice (List.map (PV.int .i64) s) [] false), (.int .i64 v0)] [] fun r => (slices_Index_int_intE r, [])
theorem slices_Index_int_int_spec {s : List Int} {v0 : Int} {r : Int} (h : slices_Index_int_int s v0 = some r) : O 98 [(.slice (List.map (PV.int .i64) s) [] false), (.int .i64 v0)] [] = some (slices_Index_int_intE r, []) := tO_spec (enc := fun r => (slices_Index_int_intE r, [])) h
end Go.Proofs.Ytfbaogfcpldlnaa
