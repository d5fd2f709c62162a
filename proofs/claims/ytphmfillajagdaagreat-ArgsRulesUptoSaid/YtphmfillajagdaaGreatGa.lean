import Derived.Test.YtphmfillajagdaaGreatEd
import Derived.Test.YtphmfillajagdaaGreatProg
import Derived.KernelRfl
set_option linter.unusedVariables false
set_option linter.unusedSimpArgs false
set_option linter.unusedSimpArgs false
open Go Go.Ev Go.Ev.PV
namespace Go.Proofs.YtphmfillajagdaaGreat
structure GType where
 name : Str
 lists : Int
 musts : Int
mutual
structure GValue where
 kind : Int
 n : Int
 s : Str
 l : List GValue
 m : List GMember
structure GMember where
 name : Str
 v : GValue
end
structure GParam where
 name : Str
 t : GType
 has : Bool
 default : GValue
structure GDir where
 name : Str
 args : List GMember
structure GFieldDef where
 name : Str
 params : List GParam
 t : GType
 dirs : List GDir
structure GDef where
 kind : Int
 name : Str
 faces : List Str
 fields : List GFieldDef
 parts : List Str
 params : List GParam
structure GSchema where
 defs : List GDef
 query : Str
 mutation : Str
structure GVarDef where
 name : Str
 t : GType
 has : Bool
 default : GValue
structure GSel where
 kind : Int
 alias : Str
 name : Str
 args : List GMember
 dirs : List GDir
 on_ : Str
 sels : List GSel
structure GOp where
 kind : Int
 name : Str
 vars : List GVarDef
 dirs : List GDir
 sels : List GSel
structure GFrag where
 name : Str
 on_ : Str
 dirs : List GDir
 sels : List GSel
structure GDoc where
 ops : List GOp
 frags : List GFrag
structure GSeineref13Spot where
 typ : Str
 x : GSel
structure GSpot where
 var : Str
 t : GType
 has : Bool
def shType : Sh := .agg [.str,n6,n6]
def shValue : Sh := .agg [n6,n6,.str,sf,sf]
def shMember : Sh := .agg [.str,n6,n6,.str,sf,sf]
def shParam : Sh := .agg [.str,.str,n6,n6,.bool,n6,n6,.str,sf,sf]
def shDir : Sh := .agg [.str,sf]
def shFieldDef : Sh := .agg [.str,sf,.str,n6,n6,sf]
def shDef : Sh := .agg [n6,.str,sf,sf,sf,sf]
def shSchema : Sh := .agg [sf,.str,.str]
def shVarDef : Sh := .agg [.str,.str,n6,n6,.bool,n6,n6,.str,sf,sf]
def shSel : Sh := .agg [n6,.str,.str,sf,sf,.str,sf]
def shOp : Sh := .agg [n6,.str,sf,sf,sf]
def shFrag : Sh := .agg [.str,.str,sf,sf]
def shDoc : Sh := .agg [sf,sf]
def shSeineref13Spot : Sh := .agg [.str,n6,.str,.str,sf,sf,.str,sf]
def shSpot : Sh := .agg [.str,.str,n6,n6,.bool]
def encType (x : GType) : PV := .agg [.str x.name,.int .i64 x.lists,.int .i64 x.musts]
theorem encType_eq (x : GType) : encType x = .agg [.str x.name,.int .i64 x.lists,.int .i64 x.musts] := rfl
theorem chk_GType (x : GType) : chk shType (encType x) = true := by rw [encType_eq]; rfl
theorem inj_GType (a b : GType) (h : encType a = encType b) : a = b := by
 simp only [encType_eq,PV.agg.injEq,List.cons.injEq,PV.slice.injEq,PV.str.injEq,PV.int.injEq,PV.bool.injEq,true_and,and_true] at h
 obtain ⟨a0,a1,a2⟩ := a
 obtain ⟨b0,b1,b2⟩ := b
 dsimp only at h
 have e0 := h.1
 have e1 := h.2.1
 have e2 := h.2.2
 subst e0 e1 e2
 rfl
mutual
def encValue : GValue → PV
 | ⟨x0,x1,x2,x3,x4⟩ => .agg ([.int .i64 x0,.int .i64 x1,.str x2,.slice (encValues x3) [] false,.slice (encMembers x4) [] false])
def encMember : GMember → PV
 | ⟨x0,x1⟩ => .agg ([.str x0] ++ (encValue x1).cells)
def encValues : List GValue → List PV
 | [] => []
 | x :: l => encValue x :: encValues l
def encMembers : List GMember → List PV
 | [] => []
 | x :: l => encMember x :: encMembers l
end
theorem encValues_eq : ∀ (l : List GValue),encValues l = List.map encValue l
 | [] => by simp only [encValues,List.map]
 | x :: l => by simp only [encValues,List.map,encValues_eq l]
theorem encMembers_eq : ∀ (l : List GMember),encMembers l = List.map encMember l
 | [] => by simp only [encMembers,List.map]
 | x :: l => by simp only [encMembers,List.map,encMembers_eq l]
theorem encValue_eq (x : GValue) : encValue x = .agg [.int .i64 x.kind,.int .i64 x.n,.str x.s,.slice (List.map encValue x.l) [] false,.slice (List.map encMember x.m) [] false] := by
 cases x; simp only [encValue,cells,List.cons_append,List.nil_append,encValues_eq,encMembers_eq]
theorem encMember_eq (x : GMember) : encMember x = .agg [.str x.name,.int .i64 x.v.kind,.int .i64 x.v.n,.str x.v.s,.slice (List.map encValue x.v.l) [] false,.slice (List.map encMember x.v.m) [] false] := by
 cases x; simp only [encMember,cells,List.cons_append,List.nil_append,encValues_eq,encMembers_eq,encValue_eq]
theorem chk_GValue (x : GValue) : chk shValue (encValue x) = true := by rw [encValue_eq]; rfl
theorem chk_GMember (x : GMember) : chk shMember (encMember x) = true := by rw [encMember_eq]; rfl
mutual
theorem inj_GValue : ∀ (a b : GValue),encValue a = encValue b → a = b
 | ⟨a0,a1,a2,a3,a4⟩,⟨b0,b1,b2,b3,b4⟩,h => by
  simp only [encValue,PV.agg.injEq,List.cons.injEq,List.append_eq,PV.slice.injEq,PV.str.injEq,PV.int.injEq,PV.bool.injEq,true_and,and_true] at h
  have e0 := h.1
  have e1 := h.2.1
  have e2 := h.2.2.1
  have e3 := inj_GValues _ _ h.2.2.2.1
  have e4 := inj_GMembers _ _ h.2.2.2.2
  subst e0 e1 e2 e3 e4
  rfl
theorem inj_GMember : ∀ (a b : GMember),encMember a = encMember b → a = b
 | ⟨a0,a1⟩,⟨b0,b1⟩,h => by
  simp only [encMember,PV.agg.injEq,List.cons_append,List.nil_append,List.cons.injEq,PV.slice.injEq,PV.str.injEq,PV.int.injEq,PV.bool.injEq,true_and,and_true] at h
  have e0 := h.1
  have e1 := inj_GValue a1 b1 (by
   have h' := h.2
   cases a1; cases b1; simp only [encValue,cells] at h' ⊢; rw [h'])
  subst e0 e1
  rfl
theorem inj_GValues : ∀ (a b : List GValue),encValues a = encValues b → a = b
 | [],[],_ => rfl
 | [],_ :: _,h => by simp [encValues] at h
 | _ :: _,[],h => by simp [encValues] at h
 | x :: l,y :: m,h => by
  simp only [encValues,List.cons.injEq] at h
  rw [inj_GValue x y h.1,inj_GValues l m h.2]
theorem inj_GMembers : ∀ (a b : List GMember),encMembers a = encMembers b → a = b
 | [],[],_ => rfl
 | [],_ :: _,h => by simp [encMembers] at h
 | _ :: _,[],h => by simp [encMembers] at h
 | x :: l,y :: m,h => by
  simp only [encMembers,List.cons.injEq] at h
  rw [inj_GMember x y h.1,inj_GMembers l m h.2]
end
def encParam (x : GParam) : PV := .agg [.str x.name,.str x.t.name,.int .i64 x.t.lists,.int .i64 x.t.musts,.bool x.has,.int .i64 x.default.kind,.int .i64 x.default.n,.str x.default.s,.slice (List.map encValue x.default.l) [] false,.slice (List.map encMember x.default.m) [] false]
theorem encParam_eq (x : GParam) : encParam x = .agg [.str x.name,.str x.t.name,.int .i64 x.t.lists,.int .i64 x.t.musts,.bool x.has,.int .i64 x.default.kind,.int .i64 x.default.n,.str x.default.s,.slice (List.map encValue x.default.l) [] false,.slice (List.map encMember x.default.m) [] false] := rfl
theorem chk_GParam (x : GParam) : chk shParam (encParam x) = true := by rw [encParam_eq]; rfl
theorem inj_GParam (a b : GParam) (h : encParam a = encParam b) : a = b := by
 simp only [encParam_eq,PV.agg.injEq,List.cons.injEq,PV.slice.injEq,PV.str.injEq,PV.int.injEq,PV.bool.injEq,true_and,and_true] at h
 obtain ⟨a0,⟨a1,a2,a3⟩,a4,⟨a5,a6,a7,a8,a9⟩⟩ := a
 obtain ⟨b0,⟨b1,b2,b3⟩,b4,⟨b5,b6,b7,b8,b9⟩⟩ := b
 dsimp only at h
 have e0 := h.1
 have e1 := h.2.1
 have e2 := h.2.2.1
 have e3 := h.2.2.2.1
 have e4 := h.2.2.2.2.1
 have e5 := h.2.2.2.2.2.1
 have e6 := h.2.2.2.2.2.2.1
 have e7 := h.2.2.2.2.2.2.2.1
 have e8 := map_inj' inj_GValue h.2.2.2.2.2.2.2.2.1
 have e9 := map_inj' inj_GMember h.2.2.2.2.2.2.2.2.2
 subst e0 e1 e2 e3 e4 e5 e6 e7 e8 e9
 rfl
def encDir (x : GDir) : PV := .agg [.str x.name,.slice (List.map encMember x.args) [] false]
theorem encDir_eq (x : GDir) : encDir x = .agg [.str x.name,.slice (List.map encMember x.args) [] false] := rfl
theorem chk_GDir (x : GDir) : chk shDir (encDir x) = true := by rw [encDir_eq]; rfl
theorem inj_GDir (a b : GDir) (h : encDir a = encDir b) : a = b := by
 simp only [encDir_eq,PV.agg.injEq,List.cons.injEq,PV.slice.injEq,PV.str.injEq,PV.int.injEq,PV.bool.injEq,true_and,and_true] at h
 obtain ⟨a0,a1⟩ := a
 obtain ⟨b0,b1⟩ := b
 dsimp only at h
 have e0 := h.1
 have e1 := map_inj' inj_GMember h.2
 subst e0 e1
 rfl
def encFieldDef (x : GFieldDef) : PV := .agg [.str x.name,.slice (List.map encParam x.params) [] false,.str x.t.name,.int .i64 x.t.lists,.int .i64 x.t.musts,.slice (List.map encDir x.dirs) [] false]
theorem encFieldDef_eq (x : GFieldDef) : encFieldDef x = .agg [.str x.name,.slice (List.map encParam x.params) [] false,.str x.t.name,.int .i64 x.t.lists,.int .i64 x.t.musts,.slice (List.map encDir x.dirs) [] false] := rfl
theorem chk_GFieldDef (x : GFieldDef) : chk shFieldDef (encFieldDef x) = true := by rw [encFieldDef_eq]; rfl
theorem inj_GFieldDef (a b : GFieldDef) (h : encFieldDef a = encFieldDef b) : a = b := by
 simp only [encFieldDef_eq,PV.agg.injEq,List.cons.injEq,PV.slice.injEq,PV.str.injEq,PV.int.injEq,PV.bool.injEq,true_and,and_true] at h
 obtain ⟨a0,a1,⟨a2,a3,a4⟩,a5⟩ := a
 obtain ⟨b0,b1,⟨b2,b3,b4⟩,b5⟩ := b
 dsimp only at h
 have e0 := h.1
 have e1 := map_inj' inj_GParam h.2.1
 have e2 := h.2.2.1
 have e3 := h.2.2.2.1
 have e4 := h.2.2.2.2.1
 have e5 := map_inj' inj_GDir h.2.2.2.2.2
 subst e0 e1 e2 e3 e4 e5
 rfl
def encDef (x : GDef) : PV := .agg [.int .i64 x.kind,.str x.name,.slice (List.map PV.str x.faces) [] false,.slice (List.map encFieldDef x.fields) [] false,.slice (List.map PV.str x.parts) [] false,.slice (List.map encParam x.params) [] false]
theorem encDef_eq (x : GDef) : encDef x = .agg [.int .i64 x.kind,.str x.name,.slice (List.map PV.str x.faces) [] false,.slice (List.map encFieldDef x.fields) [] false,.slice (List.map PV.str x.parts) [] false,.slice (List.map encParam x.params) [] false] := rfl
theorem chk_GDef (x : GDef) : chk shDef (encDef x) = true := by rw [encDef_eq]; rfl
theorem inj_GDef (a b : GDef) (h : encDef a = encDef b) : a = b := by
 simp only [encDef_eq,PV.agg.injEq,List.cons.injEq,PV.slice.injEq,PV.str.injEq,PV.int.injEq,PV.bool.injEq,true_and,and_true] at h
 obtain ⟨a0,a1,a2,a3,a4,a5⟩ := a
 obtain ⟨b0,b1,b2,b3,b4,b5⟩ := b
 dsimp only at h
 have e0 := h.1
 have e1 := h.2.1
 have e2 := map_inj' Ev.str_inj h.2.2.1
 have e3 := map_inj' inj_GFieldDef h.2.2.2.1
 have e4 := map_inj' Ev.str_inj h.2.2.2.2.1
 have e5 := map_inj' inj_GParam h.2.2.2.2.2
 subst e0 e1 e2 e3 e4 e5
 rfl
def encSchema (x : GSchema) : PV := .agg [.slice (List.map encDef x.defs) [] false,.str x.query,.str x.mutation]
theorem encSchema_eq (x : GSchema) : encSchema x = .agg [.slice (List.map encDef x.defs) [] false,.str x.query,.str x.mutation] := rfl
theorem chk_GSchema (x : GSchema) : chk shSchema (encSchema x) = true := by rw [encSchema_eq]; rfl
def encVarDef (x : GVarDef) : PV := .agg [.str x.name,.str x.t.name,.int .i64 x.t.lists,.int .i64 x.t.musts,.bool x.has,.int .i64 x.default.kind,.int .i64 x.default.n,.str x.default.s,.slice (List.map encValue x.default.l) [] false,.slice (List.map encMember x.default.m) [] false]
theorem encVarDef_eq (x : GVarDef) : encVarDef x = .agg [.str x.name,.str x.t.name,.int .i64 x.t.lists,.int .i64 x.t.musts,.bool x.has,.int .i64 x.default.kind,.int .i64 x.default.n,.str x.default.s,.slice (List.map encValue x.default.l) [] false,.slice (List.map encMember x.default.m) [] false] := rfl
theorem chk_GVarDef (x : GVarDef) : chk shVarDef (encVarDef x) = true := by rw [encVarDef_eq]; rfl
mutual
def encSel : GSel → PV
 | ⟨x0,x1,x2,x3,x4,x5,x6⟩ => .agg ([.int .i64 x0,.str x1,.str x2,.slice (List.map encMember x3) [] false,.slice (List.map encDir x4) [] false,.str x5,.slice (encSels x6) [] false])
def encSels : List GSel → List PV
 | [] => []
 | x :: l => encSel x :: encSels l
end
theorem encSels_eq : ∀ (l : List GSel),encSels l = List.map encSel l
 | [] => by simp only [encSels,List.map]
 | x :: l => by simp only [encSels,List.map,encSels_eq l]
theorem encSel_eq (x : GSel) : encSel x = .agg [.int .i64 x.kind,.str x.alias,.str x.name,.slice (List.map encMember x.args) [] false,.slice (List.map encDir x.dirs) [] false,.str x.on_,.slice (List.map encSel x.sels) [] false] := by
 cases x; simp only [encSel,cells,List.cons_append,List.nil_append,encSels_eq]
theorem chk_GSel (x : GSel) : chk shSel (encSel x) = true := by rw [encSel_eq]; rfl
mutual
theorem inj_GSel : ∀ (a b : GSel),encSel a = encSel b → a = b
 | ⟨a0,a1,a2,a3,a4,a5,a6⟩,⟨b0,b1,b2,b3,b4,b5,b6⟩,h => by
  simp only [encSel,PV.agg.injEq,List.cons.injEq,List.append_eq,PV.slice.injEq,PV.str.injEq,PV.int.injEq,PV.bool.injEq,true_and,and_true] at h
  have e0 := h.1
  have e1 := h.2.1
  have e2 := h.2.2.1
  have e3 := map_inj' inj_GMember h.2.2.2.1
  have e4 := map_inj' inj_GDir h.2.2.2.2.1
  have e5 := h.2.2.2.2.2.1
  have e6 := inj_GSels _ _ h.2.2.2.2.2.2
  subst e0 e1 e2 e3 e4 e5 e6
  rfl
theorem inj_GSels : ∀ (a b : List GSel),encSels a = encSels b → a = b
 | [],[],_ => rfl
 | [],_ :: _,h => by simp [encSels] at h
 | _ :: _,[],h => by simp [encSels] at h
 | x :: l,y :: m,h => by
  simp only [encSels,List.cons.injEq] at h
  rw [inj_GSel x y h.1,inj_GSels l m h.2]
end
def encOp (x : GOp) : PV := .agg [.int .i64 x.kind,.str x.name,.slice (List.map encVarDef x.vars) [] false,.slice (List.map encDir x.dirs) [] false,.slice (List.map encSel x.sels) [] false]
theorem encOp_eq (x : GOp) : encOp x = .agg [.int .i64 x.kind,.str x.name,.slice (List.map encVarDef x.vars) [] false,.slice (List.map encDir x.dirs) [] false,.slice (List.map encSel x.sels) [] false] := rfl
theorem chk_GOp (x : GOp) : chk shOp (encOp x) = true := by rw [encOp_eq]; rfl
def encFrag (x : GFrag) : PV := .agg [.str x.name,.str x.on_,.slice (List.map encDir x.dirs) [] false,.slice (List.map encSel x.sels) [] false]
theorem encFrag_eq (x : GFrag) : encFrag x = .agg [.str x.name,.str x.on_,.slice (List.map encDir x.dirs) [] false,.slice (List.map encSel x.sels) [] false] := rfl
theorem chk_GFrag (x : GFrag) : chk shFrag (encFrag x) = true := by rw [encFrag_eq]; rfl
theorem inj_GFrag (a b : GFrag) (h : encFrag a = encFrag b) : a = b := by
 simp only [encFrag_eq,PV.agg.injEq,List.cons.injEq,PV.slice.injEq,PV.str.injEq,PV.int.injEq,PV.bool.injEq,true_and,and_true] at h
 obtain ⟨a0,a1,a2,a3⟩ := a
 obtain ⟨b0,b1,b2,b3⟩ := b
 dsimp only at h
 have e0 := h.1
 have e1 := h.2.1
 have e2 := map_inj' inj_GDir h.2.2.1
 have e3 := map_inj' inj_GSel h.2.2.2
 subst e0 e1 e2 e3
 rfl
def encDoc (x : GDoc) : PV := .agg [.slice (List.map encOp x.ops) [] false,.slice (List.map encFrag x.frags) [] false]
theorem encDoc_eq (x : GDoc) : encDoc x = .agg [.slice (List.map encOp x.ops) [] false,.slice (List.map encFrag x.frags) [] false] := rfl
theorem chk_GDoc (x : GDoc) : chk shDoc (encDoc x) = true := by rw [encDoc_eq]; rfl
def encSeineref13Spot (x : GSeineref13Spot) : PV := .agg [.str x.typ,.int .i64 x.x.kind,.str x.x.alias,.str x.x.name,.slice (List.map encMember x.x.args) [] false,.slice (List.map encDir x.x.dirs) [] false,.str x.x.on_,.slice (List.map encSel x.x.sels) [] false]
theorem encSeineref13Spot_eq (x : GSeineref13Spot) : encSeineref13Spot x = .agg [.str x.typ,.int .i64 x.x.kind,.str x.x.alias,.str x.x.name,.slice (List.map encMember x.x.args) [] false,.slice (List.map encDir x.x.dirs) [] false,.str x.x.on_,.slice (List.map encSel x.x.sels) [] false] := rfl
theorem chk_GSeineref13Spot (x : GSeineref13Spot) : chk shSeineref13Spot (encSeineref13Spot x) = true := by rw [encSeineref13Spot_eq]; rfl
theorem inj_GSeineref13Spot (a b : GSeineref13Spot) (h : encSeineref13Spot a = encSeineref13Spot b) : a = b := by
 simp only [encSeineref13Spot_eq,PV.agg.injEq,List.cons.injEq,PV.slice.injEq,PV.str.injEq,PV.int.injEq,PV.bool.injEq,true_and,and_true] at h
 obtain ⟨a0,⟨a1,a2,a3,a4,a5,a6,a7⟩⟩ := a
 obtain ⟨b0,⟨b1,b2,b3,b4,b5,b6,b7⟩⟩ := b
 dsimp only at h
 have e0 := h.1
 have e1 := h.2.1
 have e2 := h.2.2.1
 have e3 := h.2.2.2.1
 have e4 := map_inj' inj_GMember h.2.2.2.2.1
 have e5 := map_inj' inj_GDir h.2.2.2.2.2.1
 have e6 := h.2.2.2.2.2.2.1
 have e7 := map_inj' inj_GSel h.2.2.2.2.2.2.2
 subst e0 e1 e2 e3 e4 e5 e6 e7
 rfl
def encSpot (x : GSpot) : PV := .agg [.str x.var,.str x.t.name,.int .i64 x.t.lists,.int .i64 x.t.musts,.bool x.has]
theorem encSpot_eq (x : GSpot) : encSpot x = .agg [.str x.var,.str x.t.name,.int .i64 x.t.lists,.int .i64 x.t.musts,.bool x.has] := rfl
theorem chk_GSpot (x : GSpot) : chk shSpot (encSpot x) = true := by rw [encSpot_eq]; rfl
abbrev eS (x : GSchema) : PV := .agg [(zq encDef x.defs),(.str x.query),(.str x.mutation)]
abbrev eD (x : GDoc) : PV := .agg [(zq encOp x.ops),(zq encFrag x.frags)]
abbrev eL (x : GSel) : PV := .agg [(i6 x.kind),(.str x.alias),(.str x.name),(zq encMember x.args),(zq encDir x.dirs),(.str x.on_),(zq encSel x.sels)]
abbrev eV (x : GValue) : PV := .agg [(i6 x.kind),(i6 x.n),(.str x.s),(zq encValue x.l),(zq encMember x.m)]
abbrev eT (x : GType) : PV := .agg [(.str x.name),(i6 x.lists),(i6 x.musts)]
abbrev eR (x : GDir) : PV := .agg [(.str x.name),(zq encMember x.args)]
theorem tys : (∀ x : GType,encType x = .agg [.str x.name,.int .i64 x.lists,.int .i64 x.musts]) ∧
  (∀ x : GValue,encValue x = .agg [.int .i64 x.kind,.int .i64 x.n,.str x.s,.slice (List.map encValue x.l) [] false,.slice (List.map encMember x.m) [] false]) ∧
  (∀ x : GMember,encMember x = .agg [.str x.name,.int .i64 x.v.kind,.int .i64 x.v.n,.str x.v.s,.slice (List.map encValue x.v.l) [] false,.slice (List.map encMember x.v.m) [] false]) ∧
  (∀ x : GParam,encParam x = .agg [.str x.name,.str x.t.name,.int .i64 x.t.lists,.int .i64 x.t.musts,.bool x.has,.int .i64 x.default.kind,.int .i64 x.default.n,.str x.default.s,.slice (List.map encValue x.default.l) [] false,.slice (List.map encMember x.default.m) [] false]) ∧
  (∀ x : GDir,encDir x = .agg [.str x.name,.slice (List.map encMember x.args) [] false]) ∧
  (∀ x : GFieldDef,encFieldDef x = .agg [.str x.name,.slice (List.map encParam x.params) [] false,.str x.t.name,.int .i64 x.t.lists,.int .i64 x.t.musts,.slice (List.map encDir x.dirs) [] false]) ∧
  (∀ x : GDef,encDef x = .agg [.int .i64 x.kind,.str x.name,.slice (List.map PV.str x.faces) [] false,.slice (List.map encFieldDef x.fields) [] false,.slice (List.map PV.str x.parts) [] false,.slice (List.map encParam x.params) [] false]) ∧
  (∀ x : GSchema,encSchema x = .agg [.slice (List.map encDef x.defs) [] false,.str x.query,.str x.mutation]) ∧
  (∀ x : GVarDef,encVarDef x = .agg [.str x.name,.str x.t.name,.int .i64 x.t.lists,.int .i64 x.t.musts,.bool x.has,.int .i64 x.default.kind,.int .i64 x.default.n,.str x.default.s,.slice (List.map encValue x.default.l) [] false,.slice (List.map encMember x.default.m) [] false]) ∧
  (∀ x : GSel,encSel x = .agg [.int .i64 x.kind,.str x.alias,.str x.name,.slice (List.map encMember x.args) [] false,.slice (List.map encDir x.dirs) [] false,.str x.on_,.slice (List.map encSel x.sels) [] false]) ∧
  (∀ x : GOp,encOp x = .agg [.int .i64 x.kind,.str x.name,.slice (List.map encVarDef x.vars) [] false,.slice (List.map encDir x.dirs) [] false,.slice (List.map encSel x.sels) [] false]) ∧
  (∀ x : GFrag,encFrag x = .agg [.str x.name,.str x.on_,.slice (List.map encDir x.dirs) [] false,.slice (List.map encSel x.sels) [] false]) ∧
  (∀ x : GDoc,encDoc x = .agg [.slice (List.map encOp x.ops) [] false,.slice (List.map encFrag x.frags) [] false]) ∧
  (∀ x : GSeineref13Spot,encSeineref13Spot x = .agg [.str x.typ,.int .i64 x.x.kind,.str x.x.alias,.str x.x.name,.slice (List.map encMember x.x.args) [] false,.slice (List.map encDir x.x.dirs) [] false,.str x.x.on_,.slice (List.map encSel x.x.sels) [] false]) ∧
  (∀ x : GSpot,encSpot x = .agg [.str x.var,.str x.t.name,.int .i64 x.t.lists,.int .i64 x.t.musts,.bool x.has]) := ⟨encType_eq,encValue_eq,encMember_eq,encParam_eq,encDir_eq,encFieldDef_eq,encDef_eq,encSchema_eq,encVarDef_eq,encSel_eq,encOp_eq,encFrag_eq,encDoc_eq,encSeineref13Spot_eq,encSpot_eq⟩
theorem chks : (∀ x,chk shType (encType x) = true) ∧
  (∀ x,chk shValue (encValue x) = true) ∧
  (∀ x,chk shMember (encMember x) = true) ∧
  (∀ x,chk shParam (encParam x) = true) ∧
  (∀ x,chk shDir (encDir x) = true) ∧
  (∀ x,chk shFieldDef (encFieldDef x) = true) ∧
  (∀ x,chk shDef (encDef x) = true) ∧
  (∀ x,chk shSchema (encSchema x) = true) ∧
  (∀ x,chk shVarDef (encVarDef x) = true) ∧
  (∀ x,chk shSel (encSel x) = true) ∧
  (∀ x,chk shOp (encOp x) = true) ∧
  (∀ x,chk shFrag (encFrag x) = true) ∧
  (∀ x,chk shDoc (encDoc x) = true) ∧
  (∀ x,chk shSeineref13Spot (encSeineref13Spot x) = true) ∧
  (∀ x,chk shSpot (encSpot x) = true) := ⟨chk_GType,chk_GValue,chk_GMember,chk_GParam,chk_GDir,chk_GFieldDef,chk_GDef,chk_GSchema,chk_GVarDef,chk_GSel,chk_GOp,chk_GFrag,chk_GDoc,chk_GSeineref13Spot,chk_GSpot⟩
open Go Go.Ev Go.Ev.PV
def MTL : List (Nat × Hints) := [(5,{ drop := true }),
 (61,{ keeps := [(3,[2,3,6,7,8]),(8,[2,3,6,7,8,9])],drop := true }),
 (96,{ takes := [48],keeps := [(2,[1,2,3]),(6,[1,3,4,5]),(10,[1,3,4,5,6,7])],drop := true }),
 (114,{ takes := [31,32,59],keeps := [(3,[2,5,6]),(10,[2,5,9,10])],drop := true }),
 (192,{ keeps := [(12,[4,6,8,9,11])],drop := true }),
 (236,{ takes := [17,39,40,59,60,61],keeps := [(4,[1,2,5]),(8,[1,2,6])],own := true,drop := true }),
 (238,{ drop := true }),
 (239,{ takes := [20],keeps := [(3,[0,2,3,4,5])],drop := true }),
 (17,{ drop := true }),
 (45,{ keeps := [(2,[0,2,7,8,9])],drop := true }),
 (46,{ keeps := [(2,[0,4,9,10,11])],drop := true }),
 (18,{ drop := true }),
 (108,{ keeps := [(6,[3,6,30,31,32])],drop := true }),
 (137,{ gens := [21,31],keeps := [(3,[1,3,4,9,12,13,14])],drop := true }),
 (70,{ gens := [25,41],keeps := [(2,[2,3,4,6,12,13,14]),(8,[2,3,6,29,30,31])],drop := true }),
 (47,{ gens := [10],drop := true }),
 (19,{ drop := true }),
 (10,{ keeps := [(2,[1,2,3])],drop := true }),
 (11,{ keeps := [(4,[2,3,4,6,7])],drop := true }),
 (20,{ keeps := [(23,[2,3,4,6,7,8])],drop := true }),
 (58,{ takes := [29,30,51,52],keeps := [(3,[2,3,5,6]),(7,[2,3,5,7])],drop := true }),
 (124,{ drop := true }),
 (123,{ drop := true }),
 (125,{ drop := true }),
 (166,{ takes := [48,53],keeps := [(4,[2,5,6,8])],own := true,drop := true }),
 (29,{ keeps := [(2,[0,1,4,5])],drop := true }),
 (182,{ takes := [4],own := true,drop := true }),
 (113,{ keeps := [(2,[1,2,4,5,6])],drop := true }),
 (183,{ takes := [28,41,42,43],keeps := [(2,[0,1,5])],own := true,drop := true }),
 (101,{ drop := true }),
 (224,{ drop := true }),
 (164,{ keeps := [(4,[1,2,4,5,6])],drop := true }),
 (225,{ keeps := [(2,[1,2,3,6,7]),(8,[1,2,3,6,7,10]),(13,[1,2,6,11])],drop := true }),
 (250,{ keeps := [(2,[0,1,5])],drop := true }),
 (251,{ keeps := [(17,[0,1,4,5,6,7,8,9])],drop := true }),
 (30,{ keeps := [(3,[1,3,4]),(8,[1,3,4,5,6])],drop := true }),
 (31,{ keeps := [(3,[1,3,4]),(7,[1,3,4,5]),(11,[1,3,6])],drop := true }),
 (44,{ drop := true }),
 (106,{ keeps := [(2,[0,4,5,8,9,10])],drop := true }),
 (177,{ drop := true }),
 (176,{ gens := [16],keeps := [(2,[0,1,4,7,8])],drop := true }),
 (107,{ gens := [9],drop := true }),
 (68,{ drop := true }),
 (180,{ drop := true }),
 (179,{ gens := [16],keeps := [(2,[0,1,4,7,8])],drop := true }),
 (109,{ gens := [42],drop := true }),
 (110,{ drop := true }),
 (138,{ drop := true }),
 (48,{ drop := true }),
 (49,{ keeps := [(2,[1,4,9,10,11])],drop := true }),
 (32,{ drop := true }),
 (33,{ keeps := [(2,[1,2,3]),(8,[1,2,3,4,5]),(13,[1,2,6])],drop := true }),
 (51,{ takes := [19],keeps := [(3,[1,3,4])],drop := true }),
 (50,{ keeps := [(2,[0,2,3]),(5,[0,2,3,4])],drop := true }),
 (52,{ keeps := [(2,[2,3,4,5])],drop := true }),
 (53,{ takes := [12],keeps := [(3,[1,3,4])],drop := true }),
 (54,{ keeps := [(2,[2,3,4,5]),(8,[2,4,6,7])],drop := true }),
 (55,{ keeps := [(3,[3,4,5,6])],drop := true }),
 (56,{ keeps := [(2,[1,2,3])],drop := true }),
 (57,{ keeps := [(2,[1,2,3]),(6,[1,3,4,5])],drop := true }),
 (59,{ drop := true }),
 (60,{ keeps := [(3,[2,4,6,7,8]),(6,[2,4,6,7,8,9])],drop := true }),
 (62,{ keeps := [(2,[2,3,4,6,7]),(9,[2,3,4,6,7,8,11])],drop := true }),
 (63,{ keeps := [(2,[2,3,4,5]),(5,[2,3,4,5,6]),(12,[2,4,8,9]),(17,[2,4,8,9,10])],drop := true }),
 (64,{ keeps := [(2,[2,3,4,5]),(6,[2,3,4,5,6,7])],drop := true }),
 (65,{ keeps := [(2,[2,3,4,5]),(7,[2,3,4,6])],drop := true }),
 (116,{ drop := true }),
 (115,{ takes := [16,38,39,40],keeps := [(2,[1,2,3,4,9])],own := true,drop := true }),
 (117,{ keeps := [(7,[2,6,7,8,10])],drop := true }),
 (186,{ keeps := [(2,[0,1,4,5])],drop := true }),
 (187,{ keeps := [(2,[0,2,3]),(5,[0,2,3,4])],drop := true }),
 (188,{ keeps := [(2,[0,1,4,5])],drop := true }),
 (121,{ drop := true }),
 (159,{ drop := true }),
 (98,{ keeps := [(4,[0,2,3])],drop := true }),
 (156,{ drop := true }),
 (193,{ keeps := [(2,[0,1,4,5,6])],drop := true }),
 (219,{ keeps := [(2,[0,1,4,5,6])],drop := true }),
 (195,{ drop := true }),
 (170,{ drop := true }),
 (83,{ keeps := [(3,[0,3,4])],drop := true }),
 (84,{ keeps := [(3,[0,3,4])],drop := true }),
 (85,{ keeps := [(3,[0,3,4])],drop := true }),
 (86,{ keeps := [(3,[0,3,4])],drop := true }),
 (87,{ keeps := [(3,[0,3,4])],drop := true }),
 (88,{ keeps := [(3,[1,3,4]),(7,[1,3,5])],drop := true }),
 (140,{ drop := true }),
 (178,{ keeps := [(4,[1,4,5,13,14,15])],drop := true }),
 (34,{ drop := true }),
 (111,{ drop := true }),
 (89,{ keeps := [(3,[1,2,3,4])],drop := true }),
 (90,{ drop := true }),
 (91,{ keeps := [(2,[1,2,3]),(8,[1,2,3,4,5])],drop := true }),
 (92,{ keeps := [(2,[1,2,3]),(8,[1,2,3,4,5])],drop := true }),
 (93,{ keeps := [(2,[1,2,3]),(6,[1,2,3,4,5]),(12,[1,2,3,4,5,6,8])],drop := true }),
 (94,{ keeps := [(2,[1,2,3]),(6,[1,2,3,4,5]),(10,[1,2,3,4,5,6,8])],drop := true }),
 (95,{ keeps := [(2,[1,2,3]),(5,[1,2,3,4])],drop := true }),
 (97,{ keeps := [(2,[1,2,3]),(7,[1,2,3,4])],drop := true }),
 (99,{ keeps := [(2,[0,1,2,6,7])],drop := true }),
 (100,{ keeps := [(4,[0,1,4,5])],drop := true }),
 (102,{ drop := true }),
 (112,{ drop := true }),
 (118,{ drop := true }),
 (119,{ keeps := [(3,[6,7,8,9])],drop := true }),
 (120,{ takes := [17,33,51],keeps := [(3,[2,3,5,6]),(7,[2,3,5,7]),(12,[5,8,9])],drop := true }),
 (122,{ takes := [11],keeps := [(3,[0,3,4])],drop := true }),
 (126,{ takes := [11],keeps := [(3,[0,3,4])],drop := true }),
 (127,{ takes := [11,32,33],keeps := [(4,[2,5,6,7])],drop := true }),
 (128,{ keeps := [(2,[0,1,4,5])],drop := true }),
 (129,{ drop := true }),
 (130,{ drop := true }),
 (131,{ keeps := [(2,[1,2,3,6,7])],drop := true }),
 (132,{ takes := [38],keeps := [(4,[3,4,7,8,9])],drop := true }),
 (134,{ keeps := [(2,[0,1,4,5])],drop := true }),
 (133,{ drop := true }),
 (135,{ keeps := [(4,[2,3,4,5,8,9])],drop := true }),
 (184,{ drop := true }),
 (169,{ drop := true }),
 (201,{ drop := true }),
 (216,{ drop := true }),
 (181,{ drop := true }),
 (155,{ takes := [12],keeps := [(3,[1,3,4])],drop := true }),
 (157,{ keeps := [(2,[1,2,3])],drop := true }),
 (158,{ keeps := [(2,[0,2,3])],drop := true }),
 (160,{ takes := [11],keeps := [(3,[0,3,4])],drop := true }),
 (161,{ takes := [11],keeps := [(3,[0,3,4])],drop := true }),
 (162,{ keeps := [(2,[0,2,3]),(5,[0,2,3,4])],drop := true }),
 (163,{ keeps := [(2,[1,2,4,5])],drop := true }),
 (165,{ keeps := [(4,[4,5,6,7]),(10,[4,5,6,10])],drop := true }),
 (167,{ keeps := [(2,[1,2,4,5])],drop := true }),
 (168,{ keeps := [(2,[1,2,4,5])],drop := true }),
 (171,{ keeps := [(2,[0,1,2,6,7])],drop := true }),
 (172,{ drop := true }),
 (173,{ drop := true }),
 (174,{ keeps := [(4,[2,3,4,5])],drop := true }),
 (185,{ takes := [24,60,93],keeps := [(8,[1,2,7,8]),(15,[2,5,7,10])],drop := true }),
 (189,{ takes := [18,19,39,40,46,47,48],keeps := [(2,[0,1,5]),(6,[0,1,5,6])],own := true,drop := true }),
 (190,{ keeps := [(3,[3,4]),(6,[3,4,5])],drop := true,vecs := [(7,1)],frz := [(9,[3])] }),
 (191,{ keeps := [(25,[1,2,6]),(32,[1,2,7])],drop := true }),
 (194,{ takes := [22,49,71,87],keeps := [(3,[1,2,3,7,8]),(8,[1,2,3,7,8,9])],own := true,drop := true }),
 (196,{ drop := true }),
 (197,{ drop := true }),
 (199,{ takes := [26,37,66,75],keeps := [(3,[2,3,4,5,9,10])],own := true,drop := true }),
 (198,{ keeps := [(2,[2,3,4,6,7]),(5,[2,3,4,6,7,8])],drop := true }),
 (228,{ drop := true }),
 (217,{ drop := true }),
 (218,{ drop := true }),
 (209,{ drop := true }),
 (210,{ drop := true }),
 (211,{ drop := true }),
 (212,{ drop := true }),
 (213,{ keeps := [(4,[1,3,4]),(10,[1,3,5])],drop := true }),
 (214,{ takes := [4],drop := true }),
 (215,{ keeps := [(4,[0,1,4,5])],drop := true }),
 (220,{ takes := [33,40],keeps := [(2,[0,1,5]),(6,[0,1,5,6,7])],own := true,drop := true }),
 (221,{ drop := true }),
 (222,{ keeps := [(5,[0,2,3,4,5,6])],drop := true }),
 (223,{ drop := true }),
 (226,{ takes := [27],keeps := [(3,[1,2,3,7,8])],drop := true }),
 (227,{ drop := true }),
 (245,{ keeps := [(2,[0,1,4,7,8])],drop := true }),
 (237,{ keeps := [(2,[0,2,5,6])],drop := true }),
 (232,{ keeps := [(2,[0,2,3])],drop := true }),
 (233,{ keeps := [(2,[0,2,3])],drop := true }),
 (234,{ keeps := [(2,[0,2,3])],drop := true }),
 (235,{ keeps := [(2,[1,2,3]),(7,[1,2,4])],drop := true }),
 (240,{ takes := [55,95],keeps := [(11,[4,7,9,11,12]),(17,[4,7,11,13,15])],drop := true }),
 (241,{ drop := true }),
 (242,{ keeps := [(9,[4,5,8,13,14]),(12,[4,5,8,13,14,15])],drop := true }),
 (243,{ keeps := [(4,[0,1,4,5])],drop := true }),
 (244,{ takes := [22],drop := true }),
 (248,{ drop := true }),
 (249,{ drop := true }),
 (252,{ drop := true })]
def MT (f : FuncId) : Hints := match Go.Ev.look MTL f with | some m => m | none => {}
def XT : Ext := fun _ => none
noncomputable def O : Orc := OL Tryz.prog MT XT
abbrev LBs := LBody → LBody
abbrev EU := Ex × List PV × UP
abbrev Ri {α : Type} (e : α → PV) (r : α) (v : PV × UP) : Prop := v = (e r,[])
noncomputable abbrev eW (i : Nat) (ds : Decs) (fn : Func) (O : Orc) (LP : LBs) (a : List PV) (u : UP) := evalBodyD Tryz.prog (MT i) ds fn.ntmps O LP fn a u
inductive W3 where
 | a | b | c
def fw : W3 → Nat
 | .a => 46
 | .b => 48
 | .c => 49
def s6_ArgsRulesE : Bool → PV := fun r => PV.bool r
noncomputable def argsW (w : W3) (ps : List GParam) (l : List GMember) : Option Bool := tO O (fw w) [(zq encParam ps),(zq encMember l)] [] fun r => (s6_ArgsRulesE r,[])
theorem s6_ArgsRulesEj (a b : Bool) (h : s6_ArgsRulesE a = s6_ArgsRulesE b) : a = b := Ev.bool_inj a b h
noncomputable def s6_ArgsRules (s : GSchema) (d : GDoc) (n : Int) : Option Bool := tO O 5 [(eS s),(eD d),(i6 n)] [] fun r => (s6_ArgsRulesE r,[])
noncomputable def r3_argRule (s : GSchema) (d : GDoc) (n : Int) : Option Bool := tO O 61 [(eS s),(eD d),(i6 n)] [] fun r => (s6_ArgsRulesE r,[])
noncomputable def r9_rule8 (s : GSchema) : Option Bool := tO O 96 [(eS s)] [] fun r => (s6_ArgsRulesE r,[])
def r3_ReachE : (List Str) → PV := fun r => (encSl PV.str) r
theorem r3_ReachEj (a b : List Str) (h : r3_ReachE a = r3_ReachE b) : a = b := (Ev.encSl_inj Ev.str_inj) a b h
noncomputable def r3_Reach (d : GDoc) (l0 : List GSel) : Option (List Str) := tO O 114 [(eD d),(zq encSel l0)] [] fun r => (r3_ReachE r,[])
noncomputable def r9_right (s : GSchema) (t : GType) (v0 : GValue) (alone : Bool) : Option Bool := tO O 192 [(eS s),(eT t),(eV v0),(.bool alone)] [] fun r => (s6_ArgsRulesE r,[])
def r1_varsE : (List Str) → PV := fun r => .slice (List.map PV.str r) [] true
theorem r1_varsEj (a b : List Str) (h : r1_varsE a = r1_varsE b) : a = b := Ev.encSlO_inj Ev.str_inj a b h
noncomputable def r1_vars (v0 : GValue) (out0 : List Str) : Option (List Str) := tO O 236 [(eV v0),(zp PV.str out0)] [] fun r => (r1_varsE r,[])
def r1_numeralE : (Int × Int) → PV := fun r => .tuple [(PV.int .i64) r.1,(PV.int .i64) r.2]
theorem r1_numeralEj (a b : Int × Int) (h : r1_numeralE a = r1_numeralE b) : a = b := by
 simp only [r1_numeralE,PV.tuple.injEq,List.cons.injEq,and_true] at h
 exact Prod.ext ((Ev.int_inj _) _ _ h.1) ((Ev.int_inj _) _ _ h.2)
noncomputable def r1_numeral (s : Str) : Option (Int × Int) := tO O 238 [(.str s)] [] fun r => (r1_numeralE r,[])
def r1_CodesE : ((List Int) × Bool) → PV := fun r => .tuple [(encSl (PV.int .i64)) r.1,PV.bool r.2]
theorem r1_CodesEj (a b : (List Int) × Bool) (h : r1_CodesE a = r1_CodesE b) : a = b := by
 simp only [r1_CodesE,PV.tuple.injEq,List.cons.injEq,and_true] at h
 exact Prod.ext ((Ev.encSl_inj (Ev.int_inj _)) _ _ h.1) (Ev.bool_inj _ _ h.2)
noncomputable def r1_Codes (s : Str) : Option ((List Int) × Bool) := tO O 239 [(.str s)] [] fun r => (r1_CodesE r,[])
noncomputable def s6_light (s : GSchema) (d : GDoc) : Option Bool := tO O 17 [(eS s),(eD d)] [] fun r => (s6_ArgsRulesE r,[])
noncomputable def s6_awake : Option Bool := tO O 18 [] [] fun r => (s6_ArgsRulesE r,[])
def ar_Walk_1U (w : W3) (typ : Str) (x : GSel) (u0_4 : GDoc) (u0_3 : GSchema) : Bool → UP := fun r => [[(5,[(.func (.func (fw w)) [] [])]),(4,[(zq encOp u0_4.ops),(zq encFrag u0_4.frags)]),(3,[(zq encDef u0_3.defs),(.str u0_3.query),(.str u0_3.mutation)])]]
noncomputable def ar_Walk_1 (w : W3) (typ : Str) (x : GSel) (u0_4 : GDoc) (u0_3 : GSchema) : Option Bool := tO O 108 [(.str typ),(eL x),(.ptr 1 3 0),(.ptr 1 5 0)] [[(5,[(.func (.func (fw w)) [] [])]),(4,[(zq encOp u0_4.ops),(zq encFrag u0_4.frags)]),(3,[(zq encDef u0_3.defs),(.str u0_3.query),(.str u0_3.mutation)])]] fun r => (s6_ArgsRulesE r,((ar_Walk_1U w) typ x u0_4 u0_3 r))
def fi_allU (w : W3) (s : GSchema) (typ : Str) (l0 : List GSel) (u0_4 : GDoc) (u0_3 : GSchema) : Bool → UP := fun r => [[(5,[(.func (.func (fw w)) [] [])]),(4,[(zq encOp u0_4.ops),(zq encFrag u0_4.frags)]),(3,[(zq encDef u0_3.defs),(.str u0_3.query),(.str u0_3.mutation)])]]
noncomputable def fi_all (w : W3) (s : GSchema) (typ : Str) (l0 : List GSel) (u0_4 : GDoc) (u0_3 : GSchema) : Option Bool := tO O 137 [(eS s),(.str typ),(zq encSel l0),(.func (.func 108) [] [(.ptr 1 3 0),(.ptr 1 5 0)])] [[(5,[(.func (.func (fw w)) [] [])]),(4,[(zq encOp u0_4.ops),(zq encFrag u0_4.frags)]),(3,[(zq encDef u0_3.defs),(.str u0_3.query),(.str u0_3.mutation)])]] fun r => (s6_ArgsRulesE r,((fi_allU w) s typ l0 u0_4 u0_3 r))
def fi_WalkU (w : W3) (s : GSchema) (d : GDoc) (u0_4 : GDoc) (u0_3 : GSchema) : Bool → UP := fun r => [[(5,[(.func (.func (fw w)) [] [])]),(4,[(zq encOp u0_4.ops),(zq encFrag u0_4.frags)]),(3,[(zq encDef u0_3.defs),(.str u0_3.query),(.str u0_3.mutation)])]]
noncomputable def fi_Walk (w : W3) (s : GSchema) (d : GDoc) (u0_4 : GDoc) (u0_3 : GSchema) : Option Bool := tO O 70 [(eS s),(eD d),(.func (.func 108) [] [(.ptr 1 3 0),(.ptr 1 5 0)])] [[(5,[(.func (.func (fw w)) [] [])]),(4,[(zq encOp u0_4.ops),(zq encFrag u0_4.frags)]),(3,[(zq encDef u0_3.defs),(.str u0_3.query),(.str u0_3.mutation)])]] fun r => (s6_ArgsRulesE r,((fi_WalkU w) s d u0_4 u0_3 r))
noncomputable def ar_Walk (w : W3) (s : GSchema) (d : GDoc) : Option Bool := tO O 47 [(eS s),(eD d),(.func (.func (fw w)) [] [])] [] fun r => (s6_ArgsRulesE r,[])
noncomputable def ar_Rule (s : GSchema) (d : GDoc) (n : Int) : Option Bool := tO O 19 [(eS s),(eD d),(i6 n)] [] fun r => (s6_ArgsRulesE r,[])
def r9_CheckE : Int → PV := fun r => (PV.int .i64) r
theorem r9_CheckEj (a b : Int) (h : r9_CheckE a = r9_CheckE b) : a = b := (Ev.int_inj _) a b h
noncomputable def r9_Check (s : GSchema) : Option Int := tO O 10 [(eS s)] [] fun r => (r9_CheckE r,[])
noncomputable def r3_Kept (s : GSchema) (d : GDoc) (n : Int) : Option Bool := tO O 11 [(eS s),(eD d),(i6 n)] [] fun r => (s6_ArgsRulesE r,[])
noncomputable def r3_Rule (s : GSchema) (d : GDoc) (n : Int) : Option Bool := tO O 20 [(eS s),(eD d),(i6 n)] [] fun r => (s6_ArgsRulesE r,[])
def r3_SpotsE : (List GSeineref13Spot) → PV := fun r => (encSl encSeineref13Spot) r
theorem r3_SpotsEj (a b : List GSeineref13Spot) (h : r3_SpotsE a = r3_SpotsE b) : a = b := (Ev.encSl_inj inj_GSeineref13Spot) a b h
noncomputable def r3_Spots (s : GSchema) (d : GDoc) : Option (List GSeineref13Spot) := tO O 58 [(eS s),(eD d)] [] fun r => (r3_SpotsE r,[])
def r3_paramsE : (List GParam) → PV := fun r => (encSl encParam) r
theorem r3_paramsEj (a b : List GParam) (h : r3_paramsE a = r3_paramsE b) : a = b := (Ev.encSl_inj inj_GParam) a b h
noncomputable def r3_params (s : GSchema) (x : GSeineref13Spot) : Option (List GParam) := tO O 124 [(eS s),(.agg [(.str x.typ),(i6 x.x.kind),(.str x.x.alias),(.str x.x.name),(zq encMember x.x.args),(zq encDir x.x.dirs),(.str x.x.on_),(zq encSel x.x.sels)])] [] fun r => (r3_paramsE r,[])
noncomputable def r3_argsRule (l0 : List GParam) (m : List GMember) (n : Int) : Option Bool := tO O 123 [(zq encParam l0),(zq encMember m),(i6 n)] [] fun r => (s6_ArgsRulesE r,[])
noncomputable def r3_dirParams (d : GDir) : Option (List GParam) := tO O 125 [(eR d)] [] fun r => (r3_paramsE r,[])
noncomputable def r9_needs (s : GSchema) (name : Str) : Option (List Str) := tO O 166 [(eS s),(.str name)] [] fun r => (r1_varsE r,[])
noncomputable def r1_Has (l0 : List Str) (s : Str) : Option Bool := tO O 29 [(zq PV.str l0),(.str s)] [] fun r => (s6_ArgsRulesE r,[])
noncomputable def r3_Spreads (l0 : List GSel) : Option (List Str) := tO O 182 [(zq encSel l0)] [] fun r => (r1_varsE r,[])
def r3_FragE : (GFrag × Bool) → PV := fun r => .tuple [encFrag r.1,PV.bool r.2]
theorem r3_FragEj (a b : GFrag × Bool) (h : r3_FragE a = r3_FragE b) : a = b := by
 simp only [r3_FragE,PV.tuple.injEq,List.cons.injEq,and_true] at h
 exact Prod.ext (inj_GFrag _ _ h.1) (Ev.bool_inj _ _ h.2)
noncomputable def r3_Frag (d : GDoc) (name : Str) : Option (GFrag × Bool) := tO O 113 [(eD d),(.str name)] [] fun r => (r3_FragE r,[])
noncomputable def r3_spreads (l0 : List GSel) (out0 : List Str) : Option (List Str) := tO O 183 [(zq encSel l0),(zp PV.str out0)] [] fun r => (r1_varsE r,[])
noncomputable def r1_RightType (t : GType) : Option Bool := tO O 101 [(eT t)] [] fun r => (s6_ArgsRulesE r,[])
def r1_ItemE : (GType × Bool) → PV := fun r => .tuple [encType r.1,PV.bool r.2]
theorem r1_ItemEj (a b : GType × Bool) (h : r1_ItemE a = r1_ItemE b) : a = b := by
 simp only [r1_ItemE,PV.tuple.injEq,List.cons.injEq,and_true] at h
 exact Prod.ext (inj_GType _ _ h.1) (Ev.bool_inj _ _ h.2)
noncomputable def r1_Item (t : GType) : Option (GType × Bool) := tO O 224 [(eT t)] [] fun r => (r1_ItemE r,[])
def r9_FindE : (GDef × Bool) → PV := fun r => .tuple [encDef r.1,PV.bool r.2]
theorem r9_FindEj (a b : GDef × Bool) (h : r9_FindE a = r9_FindE b) : a = b := by
 simp only [r9_FindE,PV.tuple.injEq,List.cons.injEq,and_true] at h
 exact Prod.ext (inj_GDef _ _ h.1) (Ev.bool_inj _ _ h.2)
noncomputable def r9_Find (s : GSchema) (name : Str) : Option (GDef × Bool) := tO O 164 [(eS s),(.str name)] [] fun r => (r9_FindE r,[])
noncomputable def r9_input (s : GSchema) (l0 : List GParam) (m : List GMember) : Option Bool := tO O 225 [(eS s),(zq encParam l0),(zq encMember m)] [] fun r => (s6_ArgsRulesE r,[])
noncomputable def r1_run (s : Str) (i : Int) : Option Int := tO O 250 [(.str s),(.int .i64 i)] [] fun r => (r9_CheckE r,[])
noncomputable def r1_Code (s : Str) (i : Int) : Option (Int × Int) := tO O 251 [(.str s),(i6 i)] [] fun r => (r1_numeralE r,[])
noncomputable def seinelaw8_Light (s : GSchema) : Option Bool := tO O 30 [(eS s)] [] fun r => (s6_ArgsRulesE r,[])
noncomputable def seinelaw7_Light (d : GDoc) : Option Bool := tO O 31 [(eD d)] [] fun r => (s6_ArgsRulesE r,[])
def value_GetE : (GValue × Bool) → PV := fun r => .tuple [encValue r.1,PV.bool r.2]
theorem value_GetEj (a b : GValue × Bool) (h : value_GetE a = value_GetE b) : a = b := by
 simp only [value_GetE,PV.tuple.injEq,List.cons.injEq,and_true] at h
 exact Prod.ext (inj_GValue _ _ h.1) (Ev.bool_inj _ _ h.2)
noncomputable def value_Get (name : Str) (l0 : List GMember) : Option (GValue × Bool) := tO O 106 [(.str name),(zq encMember l0)] [] fun r => (value_GetE r,[])
def li_Param_1U (p0 : GParam) (u0_4 : Str) (u0_40 : Str) (u0_400 : Int) (u0_4000 : Int) (u0_40000 : Bool) (u0_400000 : Int) (u0_4000000 : Int) (u0_40000000 : Str) (u0_3 : Str) : Bool → UP := fun r => [[(4,[(.str u0_4),(.str u0_40),(i6 u0_400),(i6 u0_4000),(.bool u0_40000),(i6 u0_400000),(i6 u0_4000000),(.str u0_40000000),(.slice [] [] true),(.slice [] [] true)]),(3,[(.str u0_3)])]]
noncomputable def li_Param_1 (p0 : GParam) (u0_4 : Str) (u0_40 : Str) (u0_400 : Int) (u0_4000 : Int) (u0_40000 : Bool) (u0_400000 : Int) (u0_4000000 : Int) (u0_40000000 : Str) (u0_3 : Str) : Option Bool := tO O 177 [(.agg [(.str p0.name),(.str p0.t.name),(i6 p0.t.lists),(i6 p0.t.musts),(.bool p0.has),(i6 p0.default.kind),(i6 p0.default.n),(.str p0.default.s),(zq encValue p0.default.l),(zq encMember p0.default.m)]),(.ptr 1 3 0)] [[(4,[(.str u0_4),(.str u0_40),(i6 u0_400),(i6 u0_4000),(.bool u0_40000),(i6 u0_400000),(i6 u0_4000000),(.str u0_40000000),(.slice [] [] true),(.slice [] [] true)]),(3,[(.str u0_3)])]] fun r => (s6_ArgsRulesE r,(li_Param_1U p0 u0_4 u0_40 u0_400 u0_4000 u0_40000 u0_400000 u0_4000000 u0_40000000 u0_3 r))
def sx_ParamU (s : List GParam) (u0_4 : Str) (u0_40 : Str) (u0_400 : Int) (u0_4000 : Int) (u0_40000 : Bool) (u0_400000 : Int) (u0_4000000 : Int) (u0_40000000 : Str) (u0_3 : Str) : Int → UP := fun r => [[(4,[(.str u0_4),(.str u0_40),(i6 u0_400),(i6 u0_4000),(.bool u0_40000),(i6 u0_400000),(i6 u0_4000000),(.str u0_40000000),(.slice [] [] true),(.slice [] [] true)]),(3,[(.str u0_3)])]]
noncomputable def sx_Param (s : List GParam) (u0_4 : Str) (u0_40 : Str) (u0_400 : Int) (u0_4000 : Int) (u0_40000 : Bool) (u0_400000 : Int) (u0_4000000 : Int) (u0_40000000 : Str) (u0_3 : Str) : Option Int := tO O 176 [(zq encParam s),(.func (.func 177) [] [(.ptr 1 3 0)])] [[(4,[(.str u0_4),(.str u0_40),(i6 u0_400),(i6 u0_4000),(.bool u0_40000),(i6 u0_400000),(i6 u0_4000000),(.str u0_40000000),(.slice [] [] true),(.slice [] [] true)]),(3,[(.str u0_3)])]] fun r => (r9_CheckE r,(sx_ParamU s u0_4 u0_40 u0_400 u0_4000 u0_40000 u0_400000 u0_4000000 u0_40000000 u0_3 r))
def li_ParamE : (GParam × Bool) → PV := fun r => .tuple [encParam r.1,PV.bool r.2]
theorem li_ParamEj (a b : GParam × Bool) (h : li_ParamE a = li_ParamE b) : a = b := by
 simp only [li_ParamE,PV.tuple.injEq,List.cons.injEq,and_true] at h
 exact Prod.ext (inj_GParam _ _ h.1) (Ev.bool_inj _ _ h.2)
noncomputable def li_Param (l0 : List GParam) (name : Str) : Option (GParam × Bool) := tO O 107 [(zq encParam l0),(.str name)] [] fun r => (li_ParamE r,[])
def fi_RootE : Str → PV := fun r => PV.str r
theorem fi_RootEj (a b : Str) (h : fi_RootE a = fi_RootE b) : a = b := Ev.str_inj a b h
noncomputable def fi_Root (s : GSchema) (o : GOp) : Option Str := tO O 68 [(eS s),(.agg [(i6 o.kind),(.str o.name),(zq encVarDef o.vars),(zq encDir o.dirs),(zq encSel o.sels)])] [] fun r => (fi_RootE r,[])
def de_Field_1U (f : GFieldDef) (u0_8 : GDef) (u0_6 : Str) (u0_60 : Str) (u0_600 : Int) (u0_6000 : Int) (u0_5 : Str) (u0_3 : GSchema) : Bool → UP := fun r => [[(8,[(i6 u0_8.kind),(.str u0_8.name),(zq PV.str u0_8.faces),(zq encFieldDef u0_8.fields),(zq PV.str u0_8.parts),(zq encParam u0_8.params)]),(6,[(.str u0_6),(.slice [] [] true),(.str u0_60),(i6 u0_600),(i6 u0_6000),(.slice [] [] true)]),(5,[(.str u0_5)]),(3,[(zq encDef u0_3.defs),(.str u0_3.query),(.str u0_3.mutation)])]]
noncomputable def de_Field_1 (f : GFieldDef) (u0_8 : GDef) (u0_6 : Str) (u0_60 : Str) (u0_600 : Int) (u0_6000 : Int) (u0_5 : Str) (u0_3 : GSchema) : Option Bool := tO O 180 [(.agg [(.str f.name),(zq encParam f.params),(.str f.t.name),(i6 f.t.lists),(i6 f.t.musts),(zq encDir f.dirs)]),(.ptr 1 5 0)] [[(8,[(i6 u0_8.kind),(.str u0_8.name),(zq PV.str u0_8.faces),(zq encFieldDef u0_8.fields),(zq PV.str u0_8.parts),(zq encParam u0_8.params)]),(6,[(.str u0_6),(.slice [] [] true),(.str u0_60),(i6 u0_600),(i6 u0_6000),(.slice [] [] true)]),(5,[(.str u0_5)]),(3,[(zq encDef u0_3.defs),(.str u0_3.query),(.str u0_3.mutation)])]] fun r => (s6_ArgsRulesE r,(de_Field_1U f u0_8 u0_6 u0_60 u0_600 u0_6000 u0_5 u0_3 r))
def sx_FieldDefU (s : List GFieldDef) (u0_8 : GDef) (u0_6 : Str) (u0_60 : Str) (u0_600 : Int) (u0_6000 : Int) (u0_5 : Str) (u0_3 : GSchema) : Int → UP := fun r => [[(8,[(i6 u0_8.kind),(.str u0_8.name),(zq PV.str u0_8.faces),(zq encFieldDef u0_8.fields),(zq PV.str u0_8.parts),(zq encParam u0_8.params)]),(6,[(.str u0_6),(.slice [] [] true),(.str u0_60),(i6 u0_600),(i6 u0_6000),(.slice [] [] true)]),(5,[(.str u0_5)]),(3,[(zq encDef u0_3.defs),(.str u0_3.query),(.str u0_3.mutation)])]]
noncomputable def sx_FieldDef (s : List GFieldDef) (u0_8 : GDef) (u0_6 : Str) (u0_60 : Str) (u0_600 : Int) (u0_6000 : Int) (u0_5 : Str) (u0_3 : GSchema) : Option Int := tO O 179 [(zq encFieldDef s),(.func (.func 180) [] [(.ptr 1 5 0)])] [[(8,[(i6 u0_8.kind),(.str u0_8.name),(zq PV.str u0_8.faces),(zq encFieldDef u0_8.fields),(zq PV.str u0_8.parts),(zq encParam u0_8.params)]),(6,[(.str u0_6),(.slice [] [] true),(.str u0_60),(i6 u0_600),(i6 u0_6000),(.slice [] [] true)]),(5,[(.str u0_5)]),(3,[(zq encDef u0_3.defs),(.str u0_3.query),(.str u0_3.mutation)])]] fun r => (r9_CheckE r,(sx_FieldDefU s u0_8 u0_6 u0_60 u0_600 u0_6000 u0_5 u0_3 r))
def de_FieldE : (GFieldDef × Bool) → PV := fun r => .tuple [encFieldDef r.1,PV.bool r.2]
theorem de_FieldEj (a b : GFieldDef × Bool) (h : de_FieldE a = de_FieldE b) : a = b := by
 simp only [de_FieldE,PV.tuple.injEq,List.cons.injEq,and_true] at h
 exact Prod.ext (inj_GFieldDef _ _ h.1) (Ev.bool_inj _ _ h.2)
noncomputable def de_Field (s : GSchema) (typ : Str) (name : Str) : Option (GFieldDef × Bool) := tO O 109 [(eS s),(.str typ),(.str name)] [] fun r => (de_FieldE r,[])
noncomputable def ar_Known_i1 (params : List GParam) (l0 : List GMember) : Option Bool := tO O 46 [(zq encParam params),(zq encMember l0)] [] fun r => (s6_ArgsRulesE r,[])
noncomputable def ar_Params (d : GDir) : Option (List GParam) := tO O 110 [(eR d)] [] fun r => (r3_paramsE r,[])
noncomputable def fi_Within (s : GSchema) (typ : Str) (x : GSel) : Option Str := tO O 138 [(eS s),(.str typ),(eL x)] [] fun r => (fi_RootE r,[])
noncomputable def ar_once (a : List GParam) (l0 : List GMember) : Option Bool := tO O 48 [(zq encParam a),(zq encMember l0)] [] fun r => (s6_ArgsRulesE r,[])
noncomputable def ar_Needed (params : List GParam) (l0 : List GMember) : Option Bool := tO O 49 [(zq encParam params),(zq encMember l0)] [] fun r => (s6_ArgsRulesE r,[])
noncomputable def r3_Root (s : GSchema) (o : GOp) : Option Str := tO O 116 [(eS s),(.agg [(i6 o.kind),(.str o.name),(zq encVarDef o.vars),(zq encDir o.dirs),(zq encSel o.sels)])] [] fun r => (fi_RootE r,[])
def r3_spotsE : (List GSeineref13Spot) → PV := fun r => .slice (List.map encSeineref13Spot r) [] true
theorem r3_spotsEj (a b : List GSeineref13Spot) (h : r3_spotsE a = r3_spotsE b) : a = b := Ev.encSlO_inj inj_GSeineref13Spot a b h
noncomputable def r3_spots (s : GSchema) (typ : Str) (l0 : List GSel) (out0 : List GSeineref13Spot) : Option (List GSeineref13Spot) := tO O 115 [(eS s),(.str typ),(zq encSel l0),(zp encSeineref13Spot out0)] [] fun r => (r3_spotsE r,[])
noncomputable def r9_Field (s : GSchema) (typ : Str) (name : Str) : Option (GFieldDef × Bool) := tO O 117 [(eS s),(.str typ),(.str name)] [] fun r => (de_FieldE r,[])
noncomputable def r3_Known (l0 : List GParam) (m : List GMember) : Option Bool := tO O 186 [(zq encParam l0),(zq encMember m)] [] fun r => (s6_ArgsRulesE r,[])
noncomputable def r3_Once (m : List GMember) : Option Bool := tO O 187 [(zq encMember m)] [] fun r => (s6_ArgsRulesE r,[])
noncomputable def r3_Needed (l0 : List GParam) (m : List GMember) : Option Bool := tO O 188 [(zq encParam l0),(zq encMember m)] [] fun r => (s6_ArgsRulesE r,[])
noncomputable def r3_DirParam (name : Str) : Option (GParam × Bool) := tO O 121 [(.str name)] [] fun r => (li_ParamE r,[])
noncomputable def r9_is (s : GSchema) (name : Str) (a : Int) (b : Int) (c : Int) : Option Bool := tO O 159 [(eS s),(.str name),(i6 a),(i6 b),(i6 c)] [] fun r => (s6_ArgsRulesE r,[])
noncomputable def r1_Name (s : Str) : Option Bool := tO O 98 [(.str s)] [] fun r => (s6_ArgsRulesE r,[])
noncomputable def r9_scalar (name : Str) : Option Bool := tO O 156 [(.str name)] [] fun r => (s6_ArgsRulesE r,[])
noncomputable def r9_Param (l0 : List GParam) (name : Str) : Option (GParam × Bool) := tO O 193 [(zq encParam l0),(.str name)] [] fun r => (li_ParamE r,[])
noncomputable def r1_Get (name : Str) (l0 : List GMember) : Option (GValue × Bool) := tO O 219 [(.str name),(zq encMember l0)] [] fun r => (value_GetE r,[])
noncomputable def r1_Is (t : GType) : Option Bool := tO O 195 [(eT t)] [] fun r => (s6_ArgsRulesE r,[])
noncomputable def r1_digit (c : Int) : Option Bool := tO O 170 [(.int .u8 c)] [] fun r => (s6_ArgsRulesE r,[])
noncomputable def de_Composite (s : GSchema) (name : Str) : Option Bool := tO O 140 [(eS s),(.str name)] [] fun r => (s6_ArgsRulesE r,[])
noncomputable def de_Find (s : GSchema) (name : Str) : Option (GDef × Bool) := tO O 178 [(eS s),(.str name)] [] fun r => (r9_FindE r,[])
noncomputable def dirs_Param (name : Str) : Option (GParam × Bool) := tO O 34 [(.str name)] [] fun r => (li_ParamE r,[])
noncomputable def ar_Once_i1 (l0 : List GMember) : Option Bool := tO O 45 [(zq encMember l0)] [] fun r => (s6_ArgsRulesE r,[])
noncomputable def li_Required (p0 : GParam) : Option Bool := tO O 111 [(.agg [(.str p0.name),(.str p0.t.name),(i6 p0.t.lists),(i6 p0.t.musts),(.bool p0.has),(i6 p0.default.kind),(i6 p0.default.n),(.str p0.default.s),(zq encValue p0.default.l),(zq encMember p0.default.m)])] [] fun r => (s6_ArgsRulesE r,[])
noncomputable def r9_Composite (s : GSchema) (name : Str) : Option Bool := tO O 112 [(eS s),(.str name)] [] fun r => (s6_ArgsRulesE r,[])
noncomputable def r3_Within (s : GSchema) (typ : Str) (x : GSel) : Option Str := tO O 184 [(eS s),(.str typ),(eL x)] [] fun r => (fi_RootE r,[])
noncomputable def r1_start (c : Int) : Option Bool := tO O 169 [(.int .u8 c)] [] fun r => (s6_ArgsRulesE r,[])
noncomputable def de_Kind (s : GSchema) (name : Str) (kinds : List Int) : Option Bool := tO O 201 [(eS s),(.str name),(.slice (List.map (PV.int .i64) kinds) [] false)] [] fun r => (s6_ArgsRulesE r,[])
noncomputable def de_scalar (name : Str) : Option Bool := tO O 216 [(.str name)] [] fun r => (s6_ArgsRulesE r,[])
noncomputable def wrap_Is (t : GType) : Option Bool := tO O 181 [(eT t)] [] fun r => (s6_ArgsRulesE r,[])
noncomputable def slices_Contains_int_int (s : List Int) (v0 : Int) : Option Bool := tO O 228 [(.slice (List.map (PV.int .i64) s) [] false),(i6 v0)] [] fun r => (s6_ArgsRulesE r,[])
noncomputable def wrap_Right (t : GType) : Option Bool := tO O 217 [(eT t)] [] fun r => (s6_ArgsRulesE r,[])
noncomputable def wrap_bit (t : GType) (i : Int) : Option Bool := tO O 218 [(eT t),(i6 i)] [] fun r => (s6_ArgsRulesE r,[])
noncomputable def slices_Index_int_int (s : List Int) (v0 : Int) : Option Int := tO O 245 [(.slice (List.map (PV.int .i64) s) [] false),(i6 v0)] [] fun r => (r9_CheckE r,[])
noncomputable def ls_Name (s : Str) : Option Bool := tO O 237 [(.str s)] [] fun r => (s6_ArgsRulesE r,[])
noncomputable def ls_Letter (c : Int) : Option Bool := tO O 248 [(.int .u8 c)] [] fun r => (s6_ArgsRulesE r,[])
noncomputable def ls_Digit (c : Int) : Option Bool := tO O 249 [(.int .u8 c)] [] fun r => (s6_ArgsRulesE r,[])
theorem zes : (∀ r : Bool,s6_ArgsRulesE r = PV.bool r) ∧
 (∀ r : (List Str),r3_ReachE r = (encSl PV.str) r) ∧
 (∀ r : (List Str),r1_varsE r = .slice (List.map PV.str r) [] true) ∧
 (∀ r : (Int × Int),r1_numeralE r = .tuple [(PV.int .i64) r.1,(PV.int .i64) r.2]) ∧
 (∀ r : ((List Int) × Bool),r1_CodesE r = .tuple [(encSl (PV.int .i64)) r.1,PV.bool r.2]) ∧
 (∀ r : Int,r9_CheckE r = (PV.int .i64) r) ∧
 (∀ r : (List GSeineref13Spot),r3_SpotsE r = (encSl encSeineref13Spot) r) ∧
 (∀ r : (List GParam),r3_paramsE r = (encSl encParam) r) ∧
 (∀ r : (GFrag × Bool),r3_FragE r = .tuple [encFrag r.1,PV.bool r.2]) ∧
 (∀ r : (GType × Bool),r1_ItemE r = .tuple [encType r.1,PV.bool r.2]) ∧
 (∀ r : (GDef × Bool),r9_FindE r = .tuple [encDef r.1,PV.bool r.2]) ∧
 (∀ r : (GValue × Bool),value_GetE r = .tuple [encValue r.1,PV.bool r.2]) ∧
 (∀ r : (GParam × Bool),li_ParamE r = .tuple [encParam r.1,PV.bool r.2]) ∧
 (∀ r : Str,fi_RootE r = PV.str r) ∧
 (∀ r : (GFieldDef × Bool),de_FieldE r = .tuple [encFieldDef r.1,PV.bool r.2]) ∧
 (∀ r : (List GSeineref13Spot),r3_spotsE r = .slice (List.map encSeineref13Spot r) [] true) :=
 ⟨fun _ => rfl,fun _ => rfl,fun _ => rfl,fun _ => rfl,fun _ => rfl,fun _ => rfl,fun _ => rfl,fun _ => rfl,fun _ => rfl,fun _ => rfl,fun _ => rfl,fun _ => rfl,fun _ => rfl,fun _ => rfl,fun _ => rfl,fun _ => rfl⟩
def bkType (x : GType) : Nat := (bkStr x.name + (bk1 x.lists + (bk1 x.musts + (0)))) + 1
def gdType (x : GType) : Prop := gd1 x.name ∧ ((gdI .i64) x.lists ∧ ((gdI .i64) x.musts ∧ (True)))
theorem bkType_eq (x : GType) : bkType x = (bkStr x.name + (bk1 x.lists + (bk1 x.musts + (0)))) + 1 := rfl
theorem gdType_eq (x : GType) : gdType x = (gd1 x.name ∧ ((gdI .i64) x.lists ∧ ((gdI .i64) x.musts ∧ (True)))) := rfl
mutual
def bkValue : GValue → Nat
 | ⟨x0,x1,x2,x3,x4⟩ => (bk1 x0 + (bk1 x1 + (bkStr x2 + ((bkValues x3 + 1) + ((bkMembers x4 + 1) + (0)))))) + 1
def bkMember : GMember → Nat
 | ⟨x0,x1⟩ => (bkStr x0 + (bkValue x1 + (0))) + 1
def bkValues : List GValue → Nat
 | [] => 0
 | x :: l => bkValue x + bkValues l
def bkMembers : List GMember → Nat
 | [] => 0
 | x :: l => bkMember x + bkMembers l
end
mutual
def gdValue : GValue → Prop
 | ⟨x0,x1,x2,x3,x4⟩ => (gdI .i64) x0 ∧ ((gdI .i64) x1 ∧ (gd1 x2 ∧ (gdValues x3 ∧ (gdMembers x4 ∧ (True)))))
def gdMember : GMember → Prop
 | ⟨x0,x1⟩ => gd1 x0 ∧ (gdValue x1 ∧ (True))
def gdValues : List GValue → Prop
 | [] => True
 | x :: l => gdValue x ∧ gdValues l
def gdMembers : List GMember → Prop
 | [] => True
 | x :: l => gdMember x ∧ gdMembers l
end
theorem bkValues_eq : ∀ (l : List GValue),bkValues l = sumL bkValue l
 | [] => by simp only [bkValues,sumL]
 | x :: l => by simp only [bkValues,sumL,bkValues_eq l]
theorem gdValues_eq : ∀ (l : List GValue),gdValues l = gdSl gdValue l
 | [] => by simp [gdValues,gdSl]
 | x :: l => by simp [gdValues,gdSl,gdValues_eq l]
theorem bkMembers_eq : ∀ (l : List GMember),bkMembers l = sumL bkMember l
 | [] => by simp only [bkMembers,sumL]
 | x :: l => by simp only [bkMembers,sumL,bkMembers_eq l]
theorem gdMembers_eq : ∀ (l : List GMember),gdMembers l = gdSl gdMember l
 | [] => by simp [gdMembers,gdSl]
 | x :: l => by simp [gdMembers,gdSl,gdMembers_eq l]
theorem bkValue_eq (x : GValue) : bkValue x = (bk1 x.kind + (bk1 x.n + (bkStr x.s + ((bkSl bkValue) x.l + ((bkSl bkMember) x.m + (0)))))) + 1 := by
 cases x; simp only [bkValue,bkSl,bkValues_eq,bkMembers_eq]
theorem gdValue_eq (x : GValue) : gdValue x = ((gdI .i64) x.kind ∧ ((gdI .i64) x.n ∧ (gd1 x.s ∧ ((gdSl gdValue) x.l ∧ ((gdSl gdMember) x.m ∧ (True)))))) := by
 cases x; simp only [gdValue,gdValues_eq,gdMembers_eq]
theorem bkMember_eq (x : GMember) : bkMember x = (bkStr x.name + (bkValue x.v + (0))) + 1 := by
 cases x; simp only [bkMember,bkSl,bkValues_eq,bkMembers_eq]
theorem gdMember_eq (x : GMember) : gdMember x = (gd1 x.name ∧ (gdValue x.v ∧ (True))) := by
 cases x; simp only [gdMember,gdValues_eq,gdMembers_eq]
def bkParam (x : GParam) : Nat := (bkStr x.name + (bkType x.t + (bk1 x.has + (bkValue x.default + (0))))) + 1
def gdParam (x : GParam) : Prop := gd1 x.name ∧ (gdType x.t ∧ (gd1 x.has ∧ (gdValue x.default ∧ (True))))
theorem bkParam_eq (x : GParam) : bkParam x = (bkStr x.name + (bkType x.t + (bk1 x.has + (bkValue x.default + (0))))) + 1 := rfl
theorem gdParam_eq (x : GParam) : gdParam x = (gd1 x.name ∧ (gdType x.t ∧ (gd1 x.has ∧ (gdValue x.default ∧ (True))))) := rfl
def bkDir (x : GDir) : Nat := (bkStr x.name + ((bkSl bkMember) x.args + (0))) + 1
def gdDir (x : GDir) : Prop := gd1 x.name ∧ ((gdSl gdMember) x.args ∧ (True))
theorem bkDir_eq (x : GDir) : bkDir x = (bkStr x.name + ((bkSl bkMember) x.args + (0))) + 1 := rfl
theorem gdDir_eq (x : GDir) : gdDir x = (gd1 x.name ∧ ((gdSl gdMember) x.args ∧ (True))) := rfl
def bkFieldDef (x : GFieldDef) : Nat := (bkStr x.name + ((bkSl bkParam) x.params + (bkType x.t + ((bkSl bkDir) x.dirs + (0))))) + 1
def gdFieldDef (x : GFieldDef) : Prop := gd1 x.name ∧ ((gdSl gdParam) x.params ∧ (gdType x.t ∧ ((gdSl gdDir) x.dirs ∧ (True))))
theorem bkFieldDef_eq (x : GFieldDef) : bkFieldDef x = (bkStr x.name + ((bkSl bkParam) x.params + (bkType x.t + ((bkSl bkDir) x.dirs + (0))))) + 1 := rfl
theorem gdFieldDef_eq (x : GFieldDef) : gdFieldDef x = (gd1 x.name ∧ ((gdSl gdParam) x.params ∧ (gdType x.t ∧ ((gdSl gdDir) x.dirs ∧ (True))))) := rfl
def bkDef (x : GDef) : Nat := (bk1 x.kind + (bkStr x.name + ((bkSl bkStr) x.faces + ((bkSl bkFieldDef) x.fields + ((bkSl bkStr) x.parts + ((bkSl bkParam) x.params + (0))))))) + 1
def gdDef (x : GDef) : Prop := (gdI .i64) x.kind ∧ (gd1 x.name ∧ ((gdSl gd1) x.faces ∧ ((gdSl gdFieldDef) x.fields ∧ ((gdSl gd1) x.parts ∧ ((gdSl gdParam) x.params ∧ (True))))))
theorem bkDef_eq (x : GDef) : bkDef x = (bk1 x.kind + (bkStr x.name + ((bkSl bkStr) x.faces + ((bkSl bkFieldDef) x.fields + ((bkSl bkStr) x.parts + ((bkSl bkParam) x.params + (0))))))) + 1 := rfl
theorem gdDef_eq (x : GDef) : gdDef x = ((gdI .i64) x.kind ∧ (gd1 x.name ∧ ((gdSl gd1) x.faces ∧ ((gdSl gdFieldDef) x.fields ∧ ((gdSl gd1) x.parts ∧ ((gdSl gdParam) x.params ∧ (True))))))) := rfl
def bkSchema (x : GSchema) : Nat := ((bkSl bkDef) x.defs + (bkStr x.query + (bkStr x.mutation + (0)))) + 1
def gdSchema (x : GSchema) : Prop := (gdSl gdDef) x.defs ∧ (gd1 x.query ∧ (gd1 x.mutation ∧ (True)))
theorem bkSchema_eq (x : GSchema) : bkSchema x = ((bkSl bkDef) x.defs + (bkStr x.query + (bkStr x.mutation + (0)))) + 1 := rfl
theorem gdSchema_eq (x : GSchema) : gdSchema x = ((gdSl gdDef) x.defs ∧ (gd1 x.query ∧ (gd1 x.mutation ∧ (True)))) := rfl
def bkVarDef (x : GVarDef) : Nat := (bkStr x.name + (bkType x.t + (bk1 x.has + (bkValue x.default + (0))))) + 1
def gdVarDef (x : GVarDef) : Prop := gd1 x.name ∧ (gdType x.t ∧ (gd1 x.has ∧ (gdValue x.default ∧ (True))))
theorem bkVarDef_eq (x : GVarDef) : bkVarDef x = (bkStr x.name + (bkType x.t + (bk1 x.has + (bkValue x.default + (0))))) + 1 := rfl
theorem gdVarDef_eq (x : GVarDef) : gdVarDef x = (gd1 x.name ∧ (gdType x.t ∧ (gd1 x.has ∧ (gdValue x.default ∧ (True))))) := rfl
mutual
def bkSel : GSel → Nat
 | ⟨x0,x1,x2,x3,x4,x5,x6⟩ => (bk1 x0 + (bkStr x1 + (bkStr x2 + ((bkSl bkMember) x3 + ((bkSl bkDir) x4 + (bkStr x5 + ((bkSels x6 + 1) + (0)))))))) + 1
def bkSels : List GSel → Nat
 | [] => 0
 | x :: l => bkSel x + bkSels l
end
mutual
def gdSel : GSel → Prop
 | ⟨x0,x1,x2,x3,x4,x5,x6⟩ => (gdI .i64) x0 ∧ (gd1 x1 ∧ (gd1 x2 ∧ ((gdSl gdMember) x3 ∧ ((gdSl gdDir) x4 ∧ (gd1 x5 ∧ (gdSels x6 ∧ (True)))))))
def gdSels : List GSel → Prop
 | [] => True
 | x :: l => gdSel x ∧ gdSels l
end
theorem bkSels_eq : ∀ (l : List GSel),bkSels l = sumL bkSel l
 | [] => by simp only [bkSels,sumL]
 | x :: l => by simp only [bkSels,sumL,bkSels_eq l]
theorem gdSels_eq : ∀ (l : List GSel),gdSels l = gdSl gdSel l
 | [] => by simp [gdSels,gdSl]
 | x :: l => by simp [gdSels,gdSl,gdSels_eq l]
theorem bkSel_eq (x : GSel) : bkSel x = (bk1 x.kind + (bkStr x.alias + (bkStr x.name + ((bkSl bkMember) x.args + ((bkSl bkDir) x.dirs + (bkStr x.on_ + ((bkSl bkSel) x.sels + (0)))))))) + 1 := by
 cases x; simp only [bkSel,bkSl,bkSels_eq]
theorem gdSel_eq (x : GSel) : gdSel x = ((gdI .i64) x.kind ∧ (gd1 x.alias ∧ (gd1 x.name ∧ ((gdSl gdMember) x.args ∧ ((gdSl gdDir) x.dirs ∧ (gd1 x.on_ ∧ ((gdSl gdSel) x.sels ∧ (True)))))))) := by
 cases x; simp only [gdSel,gdSels_eq]
def bkOp (x : GOp) : Nat := (bk1 x.kind + (bkStr x.name + ((bkSl bkVarDef) x.vars + ((bkSl bkDir) x.dirs + ((bkSl bkSel) x.sels + (0)))))) + 1
def gdOp (x : GOp) : Prop := (gdI .i64) x.kind ∧ (gd1 x.name ∧ ((gdSl gdVarDef) x.vars ∧ ((gdSl gdDir) x.dirs ∧ ((gdSl gdSel) x.sels ∧ (True)))))
theorem bkOp_eq (x : GOp) : bkOp x = (bk1 x.kind + (bkStr x.name + ((bkSl bkVarDef) x.vars + ((bkSl bkDir) x.dirs + ((bkSl bkSel) x.sels + (0)))))) + 1 := rfl
theorem gdOp_eq (x : GOp) : gdOp x = ((gdI .i64) x.kind ∧ (gd1 x.name ∧ ((gdSl gdVarDef) x.vars ∧ ((gdSl gdDir) x.dirs ∧ ((gdSl gdSel) x.sels ∧ (True)))))) := rfl
def bkFrag (x : GFrag) : Nat := (bkStr x.name + (bkStr x.on_ + ((bkSl bkDir) x.dirs + ((bkSl bkSel) x.sels + (0))))) + 1
def gdFrag (x : GFrag) : Prop := gd1 x.name ∧ (gd1 x.on_ ∧ ((gdSl gdDir) x.dirs ∧ ((gdSl gdSel) x.sels ∧ (True))))
theorem bkFrag_eq (x : GFrag) : bkFrag x = (bkStr x.name + (bkStr x.on_ + ((bkSl bkDir) x.dirs + ((bkSl bkSel) x.sels + (0))))) + 1 := rfl
theorem gdFrag_eq (x : GFrag) : gdFrag x = (gd1 x.name ∧ (gd1 x.on_ ∧ ((gdSl gdDir) x.dirs ∧ ((gdSl gdSel) x.sels ∧ (True))))) := rfl
def bkDoc (x : GDoc) : Nat := ((bkSl bkOp) x.ops + ((bkSl bkFrag) x.frags + (0))) + 1
def gdDoc (x : GDoc) : Prop := (gdSl gdOp) x.ops ∧ ((gdSl gdFrag) x.frags ∧ (True))
theorem bkDoc_eq (x : GDoc) : bkDoc x = ((bkSl bkOp) x.ops + ((bkSl bkFrag) x.frags + (0))) + 1 := rfl
theorem gdDoc_eq (x : GDoc) : gdDoc x = ((gdSl gdOp) x.ops ∧ ((gdSl gdFrag) x.frags ∧ (True))) := rfl
def bkSeineref13Spot (x : GSeineref13Spot) : Nat := (bkStr x.typ + (bkSel x.x + (0))) + 1
def gdSeineref13Spot (x : GSeineref13Spot) : Prop := gd1 x.typ ∧ (gdSel x.x ∧ (True))
theorem bkSeineref13Spot_eq (x : GSeineref13Spot) : bkSeineref13Spot x = (bkStr x.typ + (bkSel x.x + (0))) + 1 := rfl
theorem gdSeineref13Spot_eq (x : GSeineref13Spot) : gdSeineref13Spot x = (gd1 x.typ ∧ (gdSel x.x ∧ (True))) := rfl
def bkSpot (x : GSpot) : Nat := (bkStr x.var + (bkType x.t + (bk1 x.has + (0)))) + 1
def gdSpot (x : GSpot) : Prop := gd1 x.var ∧ (gdType x.t ∧ (gd1 x.has ∧ (True)))
theorem bkSpot_eq (x : GSpot) : bkSpot x = (bkStr x.var + (bkType x.t + (bk1 x.has + (0)))) + 1 := rfl
theorem gdSpot_eq (x : GSpot) : gdSpot x = (gd1 x.var ∧ (gdType x.t ∧ (gd1 x.has ∧ (True)))) := rfl
def TS : Nat → TypeId
 | 0 => 49
 | 1 => 52
 | 2 => 70
 | 3 => 61
 | 4 => 41
 | 5 => 104
 | 6 => 100
 | 7 => 24
 | 8 => 54
 | 9 => 44
 | 10 => 38
 | 11 => 68
 | 12 => 28
 | 13 => 83
 | _ => 140
def BS : Nat → Ty
 | 0 => (.fcons .str (.fcons (.int .i64) (.fcons (.int .i64) .fnil)))
 | 1 => (.fcons (.int .i64) (.fcons (.int .i64) (.fcons .str (.fcons (.sl (.ext 1)) (.fcons (.sl (.ext 2)) .fnil)))))
 | 2 => (.fcons .str (.fcons (.ext 1) .fnil))
 | 3 => (.fcons .str (.fcons (.ext 0) (.fcons .bool (.fcons (.ext 1) .fnil))))
 | 4 => (.fcons .str (.fcons (.sl (.ext 2)) .fnil))
 | 5 => (.fcons .str (.fcons (.sl (.ext 3)) (.fcons (.ext 0) (.fcons (.sl (.ext 4)) .fnil))))
 | 6 => (.fcons (.int .i64) (.fcons .str (.fcons (.sl .str) (.fcons (.sl (.ext 5)) (.fcons (.sl .str) (.fcons (.sl (.ext 3)) .fnil))))))
 | 7 => (.fcons (.sl (.ext 6)) (.fcons .str (.fcons .str .fnil)))
 | 8 => (.fcons .str (.fcons (.ext 0) (.fcons .bool (.fcons (.ext 1) .fnil))))
 | 9 => (.fcons (.int .i64) (.fcons .str (.fcons .str (.fcons (.sl (.ext 2)) (.fcons (.sl (.ext 4)) (.fcons .str (.fcons (.sl (.ext 9)) .fnil)))))))
 | 10 => (.fcons (.int .i64) (.fcons .str (.fcons (.sl (.ext 8)) (.fcons (.sl (.ext 4)) (.fcons (.sl (.ext 9)) .fnil)))))
 | 11 => (.fcons .str (.fcons .str (.fcons (.sl (.ext 4)) (.fcons (.sl (.ext 9)) .fnil))))
 | 12 => (.fcons (.sl (.ext 10)) (.fcons (.sl (.ext 11)) .fnil))
 | 13 => (.fcons .str (.fcons (.ext 9) .fnil))
 | _ => (.fcons .str (.fcons (.ext 0) (.fcons .bool .fnil)))
abbrev recType : RecTy := ⟨GType,encType,3,bkType,gdType,fun x => wf_agg _ (encType_eq x) rfl rfl⟩
abbrev recValue : RecTy := ⟨GValue,encValue,5,bkValue,gdValue,fun x => wf_agg _ (encValue_eq x) rfl rfl⟩
abbrev recMember : RecTy := ⟨GMember,encMember,6,bkMember,gdMember,fun x => wf_agg _ (encMember_eq x) rfl rfl⟩
abbrev recParam : RecTy := ⟨GParam,encParam,10,bkParam,gdParam,fun x => wf_agg _ (encParam_eq x) rfl rfl⟩
abbrev recDir : RecTy := ⟨GDir,encDir,2,bkDir,gdDir,fun x => wf_agg _ (encDir_eq x) rfl rfl⟩
abbrev recFieldDef : RecTy := ⟨GFieldDef,encFieldDef,6,bkFieldDef,gdFieldDef,fun x => wf_agg _ (encFieldDef_eq x) rfl rfl⟩
abbrev recDef : RecTy := ⟨GDef,encDef,6,bkDef,gdDef,fun x => wf_agg _ (encDef_eq x) rfl rfl⟩
abbrev recSchema : RecTy := ⟨GSchema,encSchema,3,bkSchema,gdSchema,fun x => wf_agg _ (encSchema_eq x) rfl rfl⟩
abbrev recVarDef : RecTy := ⟨GVarDef,encVarDef,10,bkVarDef,gdVarDef,fun x => wf_agg _ (encVarDef_eq x) rfl rfl⟩
abbrev recSel : RecTy := ⟨GSel,encSel,7,bkSel,gdSel,fun x => wf_agg _ (encSel_eq x) rfl rfl⟩
abbrev recOp : RecTy := ⟨GOp,encOp,5,bkOp,gdOp,fun x => wf_agg _ (encOp_eq x) rfl rfl⟩
abbrev recFrag : RecTy := ⟨GFrag,encFrag,4,bkFrag,gdFrag,fun x => wf_agg _ (encFrag_eq x) rfl rfl⟩
abbrev recDoc : RecTy := ⟨GDoc,encDoc,2,bkDoc,gdDoc,fun x => wf_agg _ (encDoc_eq x) rfl rfl⟩
abbrev recSeineref13Spot : RecTy := ⟨GSeineref13Spot,encSeineref13Spot,8,bkSeineref13Spot,gdSeineref13Spot,fun x => wf_agg _ (encSeineref13Spot_eq x) rfl rfl⟩
abbrev recSpot : RecTy := ⟨GSpot,encSpot,5,bkSpot,gdSpot,fun x => wf_agg _ (encSpot_eq x) rfl rfl⟩
abbrev RS : REnv
 | 0 => recType
 | 1 => recValue
 | 2 => recMember
 | 3 => recParam
 | 4 => recDir
 | 5 => recFieldDef
 | 6 => recDef
 | 7 => recSchema
 | 8 => recVarDef
 | 9 => recSel
 | 10 => recOp
 | 11 => recFrag
 | 12 => recDoc
 | 13 => recSeineref13Spot
 | _ => recSpot
theorem hty : ∀ i,∃ F,Tryz.prog.underlying (TS i) = some (.struct F) ∧ Tryz.prog.cellsOf (TS i) = (BS i).size RS ∧ flds RS Tryz.prog (tyOk RS TS Tryz.prog 9) F.toList 0 (BS i) = true
 | 0 => ⟨_,Tryz.underlying49,by kernel_rfl,by kernel_rfl⟩
 | 1 => ⟨_,Tryz.underlying52,by kernel_rfl,by kernel_rfl⟩
 | 2 => ⟨_,Tryz.underlying70,by kernel_rfl,by kernel_rfl⟩
 | 3 => ⟨_,Tryz.underlying61,by kernel_rfl,by kernel_rfl⟩
 | 4 => ⟨_,Tryz.underlying41,by kernel_rfl,by kernel_rfl⟩
 | 5 => ⟨_,Tryz.underlying104,by kernel_rfl,by kernel_rfl⟩
 | 6 => ⟨_,Tryz.underlying100,by kernel_rfl,by kernel_rfl⟩
 | 7 => ⟨_,Tryz.underlying24,by kernel_rfl,by kernel_rfl⟩
 | 8 => ⟨_,Tryz.underlying54,by kernel_rfl,by kernel_rfl⟩
 | 9 => ⟨_,Tryz.underlying44,by kernel_rfl,by kernel_rfl⟩
 | 10 => ⟨_,Tryz.underlying38,by kernel_rfl,by kernel_rfl⟩
 | 11 => ⟨_,Tryz.underlying68,by kernel_rfl,by kernel_rfl⟩
 | 12 => ⟨_,Tryz.underlying28,by kernel_rfl,by kernel_rfl⟩
 | 13 => ⟨_,Tryz.underlying83,by kernel_rfl,by kernel_rfl⟩
 | _ + 14 => ⟨_,Tryz.underlying140,by kernel_rfl,by kernel_rfl⟩
theorem cvType (x0 : Str) (x1 : Int) (x2 : Int) : encType ⟨x0,x1,x2⟩ = (PV.agg ((PV.str x0).cells ++ (PV.agg (((PV.int .i64) x1).cells ++ (PV.agg (((PV.int .i64) x2).cells ++ (PV.agg []).cells)).cells)).cells)) := by
 simp only [tys,cells,List.cons_append,List.nil_append]
theorem cvValue (x0 : Int) (x1 : Int) (x2 : Str) (x3 : List GValue) (x4 : List GMember) : encValue ⟨x0,x1,x2,x3,x4⟩ = (PV.agg (((PV.int .i64) x0).cells ++ (PV.agg (((PV.int .i64) x1).cells ++ (PV.agg ((PV.str x2).cells ++ (PV.agg ((PV.slice (List.map encValue x3) [] false).cells ++ (PV.agg ((PV.slice (List.map encMember x4) [] false).cells ++ (PV.agg []).cells)).cells)).cells)).cells)).cells)) := by
 simp only [tys,cells,List.cons_append,List.nil_append]
theorem cvMember (x0 : Str) (x1 : GValue) : encMember ⟨x0,x1⟩ = (PV.agg ((PV.str x0).cells ++ (PV.agg ((encValue x1).cells ++ (PV.agg []).cells)).cells)) := by
 simp only [tys,cells,List.cons_append,List.nil_append]
theorem cvParam (x0 : Str) (x1 : GType) (x2 : Bool) (x3 : GValue) : encParam ⟨x0,x1,x2,x3⟩ = (PV.agg ((PV.str x0).cells ++ (PV.agg ((encType x1).cells ++ (PV.agg ((PV.bool x2).cells ++ (PV.agg ((encValue x3).cells ++ (PV.agg []).cells)).cells)).cells)).cells)) := by
 simp only [tys,cells,List.cons_append,List.nil_append]
theorem cvDir (x0 : Str) (x1 : List GMember) : encDir ⟨x0,x1⟩ = (PV.agg ((PV.str x0).cells ++ (PV.agg ((PV.slice (List.map encMember x1) [] false).cells ++ (PV.agg []).cells)).cells)) := by
 simp only [tys,cells,List.cons_append,List.nil_append]
theorem cvFieldDef (x0 : Str) (x1 : List GParam) (x2 : GType) (x3 : List GDir) : encFieldDef ⟨x0,x1,x2,x3⟩ = (PV.agg ((PV.str x0).cells ++ (PV.agg ((PV.slice (List.map encParam x1) [] false).cells ++ (PV.agg ((encType x2).cells ++ (PV.agg ((PV.slice (List.map encDir x3) [] false).cells ++ (PV.agg []).cells)).cells)).cells)).cells)) := by
 simp only [tys,cells,List.cons_append,List.nil_append]
theorem cvDef (x0 : Int) (x1 : Str) (x2 : List Str) (x3 : List GFieldDef) (x4 : List Str) (x5 : List GParam) : encDef ⟨x0,x1,x2,x3,x4,x5⟩ = (PV.agg (((PV.int .i64) x0).cells ++ (PV.agg ((PV.str x1).cells ++ (PV.agg ((PV.slice (List.map PV.str x2) [] false).cells ++ (PV.agg ((PV.slice (List.map encFieldDef x3) [] false).cells ++ (PV.agg ((PV.slice (List.map PV.str x4) [] false).cells ++ (PV.agg ((PV.slice (List.map encParam x5) [] false).cells ++ (PV.agg []).cells)).cells)).cells)).cells)).cells)).cells)) := by
 simp only [tys,cells,List.cons_append,List.nil_append]
theorem cvSchema (x0 : List GDef) (x1 : Str) (x2 : Str) : encSchema ⟨x0,x1,x2⟩ = (PV.agg ((PV.slice (List.map encDef x0) [] false).cells ++ (PV.agg ((PV.str x1).cells ++ (PV.agg ((PV.str x2).cells ++ (PV.agg []).cells)).cells)).cells)) := by
 simp only [tys,cells,List.cons_append,List.nil_append]
theorem cvVarDef (x0 : Str) (x1 : GType) (x2 : Bool) (x3 : GValue) : encVarDef ⟨x0,x1,x2,x3⟩ = (PV.agg ((PV.str x0).cells ++ (PV.agg ((encType x1).cells ++ (PV.agg ((PV.bool x2).cells ++ (PV.agg ((encValue x3).cells ++ (PV.agg []).cells)).cells)).cells)).cells)) := by
 simp only [tys,cells,List.cons_append,List.nil_append]
theorem cvSel (x0 : Int) (x1 : Str) (x2 : Str) (x3 : List GMember) (x4 : List GDir) (x5 : Str) (x6 : List GSel) : encSel ⟨x0,x1,x2,x3,x4,x5,x6⟩ = (PV.agg (((PV.int .i64) x0).cells ++ (PV.agg ((PV.str x1).cells ++ (PV.agg ((PV.str x2).cells ++ (PV.agg ((PV.slice (List.map encMember x3) [] false).cells ++ (PV.agg ((PV.slice (List.map encDir x4) [] false).cells ++ (PV.agg ((PV.str x5).cells ++ (PV.agg ((PV.slice (List.map encSel x6) [] false).cells ++ (PV.agg []).cells)).cells)).cells)).cells)).cells)).cells)).cells)) := by
 simp only [tys,cells,List.cons_append,List.nil_append]
theorem cvOp (x0 : Int) (x1 : Str) (x2 : List GVarDef) (x3 : List GDir) (x4 : List GSel) : encOp ⟨x0,x1,x2,x3,x4⟩ = (PV.agg (((PV.int .i64) x0).cells ++ (PV.agg ((PV.str x1).cells ++ (PV.agg ((PV.slice (List.map encVarDef x2) [] false).cells ++ (PV.agg ((PV.slice (List.map encDir x3) [] false).cells ++ (PV.agg ((PV.slice (List.map encSel x4) [] false).cells ++ (PV.agg []).cells)).cells)).cells)).cells)).cells)) := by
 simp only [tys,cells,List.cons_append,List.nil_append]
theorem cvFrag (x0 : Str) (x1 : Str) (x2 : List GDir) (x3 : List GSel) : encFrag ⟨x0,x1,x2,x3⟩ = (PV.agg ((PV.str x0).cells ++ (PV.agg ((PV.str x1).cells ++ (PV.agg ((PV.slice (List.map encDir x2) [] false).cells ++ (PV.agg ((PV.slice (List.map encSel x3) [] false).cells ++ (PV.agg []).cells)).cells)).cells)).cells)) := by
 simp only [tys,cells,List.cons_append,List.nil_append]
theorem cvDoc (x0 : List GOp) (x1 : List GFrag) : encDoc ⟨x0,x1⟩ = (PV.agg ((PV.slice (List.map encOp x0) [] false).cells ++ (PV.agg ((PV.slice (List.map encFrag x1) [] false).cells ++ (PV.agg []).cells)).cells)) := by
 simp only [tys,cells,List.cons_append,List.nil_append]
theorem cvSeineref13Spot (x0 : Str) (x1 : GSel) : encSeineref13Spot ⟨x0,x1⟩ = (PV.agg ((PV.str x0).cells ++ (PV.agg ((encSel x1).cells ++ (PV.agg []).cells)).cells)) := by
 simp only [tys,cells,List.cons_append,List.nil_append]
theorem cvSpot (x0 : Str) (x1 : GType) (x2 : Bool) : encSpot ⟨x0,x1,x2⟩ = (PV.agg ((PV.str x0).cells ++ (PV.agg ((encType x1).cells ++ (PV.agg ((PV.bool x2).cells ++ (PV.agg []).cells)).cells)).cells)) := by
 simp only [tys,cells,List.cons_append,List.nil_append]
theorem hcv : ∀ i (x : (BS i).den RS),∃ y : (RS i).D,(RS i).en y = enc RS (BS i) x ∧ (RS i).bk y ≤ bulk RS (BS i) x + 1 ∧ (good RS (BS i) x → (RS i).gd y)
 | 0,⟨x0,x1,x2,_⟩ => ⟨(⟨x0,x1,x2⟩ : GType),(cvType x0 x1 x2).trans rfl,Nat.le_of_eq ((bkType_eq _).trans rfl),fun h => (gdType_eq _).mpr h⟩
 | 1,⟨x0,x1,x2,x3,x4,_⟩ => ⟨(⟨x0,x1,x2,x3,x4⟩ : GValue),(cvValue x0 x1 x2 x3 x4).trans rfl,Nat.le_of_eq ((bkValue_eq _).trans rfl),fun h => (gdValue_eq _).mpr h⟩
 | 2,⟨x0,x1,_⟩ => ⟨(⟨x0,x1⟩ : GMember),(cvMember x0 x1).trans rfl,Nat.le_of_eq ((bkMember_eq _).trans rfl),fun h => (gdMember_eq _).mpr h⟩
 | 3,⟨x0,x1,x2,x3,_⟩ => ⟨(⟨x0,x1,x2,x3⟩ : GParam),(cvParam x0 x1 x2 x3).trans rfl,Nat.le_of_eq ((bkParam_eq _).trans rfl),fun h => (gdParam_eq _).mpr h⟩
 | 4,⟨x0,x1,_⟩ => ⟨(⟨x0,x1⟩ : GDir),(cvDir x0 x1).trans rfl,Nat.le_of_eq ((bkDir_eq _).trans rfl),fun h => (gdDir_eq _).mpr h⟩
 | 5,⟨x0,x1,x2,x3,_⟩ => ⟨(⟨x0,x1,x2,x3⟩ : GFieldDef),(cvFieldDef x0 x1 x2 x3).trans rfl,Nat.le_of_eq ((bkFieldDef_eq _).trans rfl),fun h => (gdFieldDef_eq _).mpr h⟩
 | 6,⟨x0,x1,x2,x3,x4,x5,_⟩ => ⟨(⟨x0,x1,x2,x3,x4,x5⟩ : GDef),(cvDef x0 x1 x2 x3 x4 x5).trans rfl,Nat.le_of_eq ((bkDef_eq _).trans rfl),fun h => (gdDef_eq _).mpr h⟩
 | 7,⟨x0,x1,x2,_⟩ => ⟨(⟨x0,x1,x2⟩ : GSchema),(cvSchema x0 x1 x2).trans rfl,Nat.le_of_eq ((bkSchema_eq _).trans rfl),fun h => (gdSchema_eq _).mpr h⟩
 | 8,⟨x0,x1,x2,x3,_⟩ => ⟨(⟨x0,x1,x2,x3⟩ : GVarDef),(cvVarDef x0 x1 x2 x3).trans rfl,Nat.le_of_eq ((bkVarDef_eq _).trans rfl),fun h => (gdVarDef_eq _).mpr h⟩
 | 9,⟨x0,x1,x2,x3,x4,x5,x6,_⟩ => ⟨(⟨x0,x1,x2,x3,x4,x5,x6⟩ : GSel),(cvSel x0 x1 x2 x3 x4 x5 x6).trans rfl,Nat.le_of_eq ((bkSel_eq _).trans rfl),fun h => (gdSel_eq _).mpr h⟩
 | 10,⟨x0,x1,x2,x3,x4,_⟩ => ⟨(⟨x0,x1,x2,x3,x4⟩ : GOp),(cvOp x0 x1 x2 x3 x4).trans rfl,Nat.le_of_eq ((bkOp_eq _).trans rfl),fun h => (gdOp_eq _).mpr h⟩
 | 11,⟨x0,x1,x2,x3,_⟩ => ⟨(⟨x0,x1,x2,x3⟩ : GFrag),(cvFrag x0 x1 x2 x3).trans rfl,Nat.le_of_eq ((bkFrag_eq _).trans rfl),fun h => (gdFrag_eq _).mpr h⟩
 | 12,⟨x0,x1,_⟩ => ⟨(⟨x0,x1⟩ : GDoc),(cvDoc x0 x1).trans rfl,Nat.le_of_eq ((bkDoc_eq _).trans rfl),fun h => (gdDoc_eq _).mpr h⟩
 | 13,⟨x0,x1,_⟩ => ⟨(⟨x0,x1⟩ : GSeineref13Spot),(cvSeineref13Spot x0 x1).trans rfl,Nat.le_of_eq ((bkSeineref13Spot_eq _).trans rfl),fun h => (gdSeineref13Spot_eq _).mpr h⟩
 | _ + 14,⟨x0,x1,x2,_⟩ => ⟨(⟨x0,x1,x2⟩ : GSpot),(cvSpot x0 x1 x2).trans rfl,Nat.le_of_eq ((bkSpot_eq _).trans rfl),fun h => (gdSpot_eq _).mpr h⟩
theorem rok {H : Type} (e : TypeId × Value → H) (W : World) {bl : DataW H → Nat} {bla : List (DataW H) → Nat} (hb : BlOk bl bla) : ROk RS TS e Tryz.prog W bl where
 op := open_ext hb 9 BS hty hcv
 ag := fun i => match i with
  | 0 => fun x => ⟨_,encType_eq x⟩
  | 1 => fun x => ⟨_,encValue_eq x⟩
  | 2 => fun x => ⟨_,encMember_eq x⟩
  | 3 => fun x => ⟨_,encParam_eq x⟩
  | 4 => fun x => ⟨_,encDir_eq x⟩
  | 5 => fun x => ⟨_,encFieldDef_eq x⟩
  | 6 => fun x => ⟨_,encDef_eq x⟩
  | 7 => fun x => ⟨_,encSchema_eq x⟩
  | 8 => fun x => ⟨_,encVarDef_eq x⟩
  | 9 => fun x => ⟨_,encSel_eq x⟩
  | 10 => fun x => ⟨_,encOp_eq x⟩
  | 11 => fun x => ⟨_,encFrag_eq x⟩
  | 12 => fun x => ⟨_,encDoc_eq x⟩
  | 13 => fun x => ⟨_,encSeineref13Spot_eq x⟩
  | _ + 14 => fun x => ⟨_,encSpot_eq x⟩
 st := fun i => (hty i).imp fun F h => h.1
end Go.Proofs.YtphmfillajagdaaGreat
