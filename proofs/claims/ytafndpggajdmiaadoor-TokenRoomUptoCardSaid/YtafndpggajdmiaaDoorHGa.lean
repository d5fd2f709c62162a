import Derived.Test.YtafndpggajdmiaaDoorHEd
import Derived.Test.YtafndpggajdmiaaDoorProg
import Derived.KernelRfl
set_option linter.unusedVariables false
set_option linter.unusedSimpArgs false
set_option linter.unusedSimpArgs false
open Go Go.Ev Go.Ev.PV
namespace Go.Proofs.YtafndpggajdmiaaDoor
structure GToken where
 kind : Int
 s : Str
structure GTokenSaid where
 b : List Int
 units : List Int
 ok : Bool
def shToken : Sh := .agg [(.int .i64), .str]
def shTokenSaid : Sh := .agg [(.sl false), (.sl false), .bool]
def encToken (x : GToken) : PV := .agg [.int .i64 x.kind, .str x.s]
theorem encToken_eq (x : GToken) : encToken x = .agg [.int .i64 x.kind, .str x.s] := rfl
theorem chk_GToken (x : GToken) : chk shToken (encToken x) = true := by rw [encToken_eq]; rfl
theorem inj_GToken (a b : GToken) (h : encToken a = encToken b) : a = b := by
 simp only [encToken_eq, PV.agg.injEq, List.cons.injEq, PV.slice.injEq, PV.str.injEq, PV.int.injEq, PV.bool.injEq, true_and, and_true] at h
 obtain ⟨a0, a1⟩ := a
 obtain ⟨b0, b1⟩ := b
 dsimp only at h
 have e0 := h.1
 have e1 := h.2
 subst e0 e1
 rfl
def encTokenSaid (x : GTokenSaid) : PV := .agg [.slice (List.map (PV.int .u8) x.b) [] false, .slice (List.map (PV.int .i64) x.units) [] false, .bool x.ok]
theorem encTokenSaid_eq (x : GTokenSaid) : encTokenSaid x = .agg [.slice (List.map (PV.int .u8) x.b) [] false, .slice (List.map (PV.int .i64) x.units) [] false, .bool x.ok] := rfl
theorem chk_GTokenSaid (x : GTokenSaid) : chk shTokenSaid (encTokenSaid x) = true := by rw [encTokenSaid_eq]; rfl
theorem inj_GTokenSaid (a b : GTokenSaid) (h : encTokenSaid a = encTokenSaid b) : a = b := by
 simp only [encTokenSaid_eq, PV.agg.injEq, List.cons.injEq, PV.slice.injEq, PV.str.injEq, PV.int.injEq, PV.bool.injEq, true_and, and_true] at h
 obtain ⟨a0, a1, a2⟩ := a
 obtain ⟨b0, b1, b2⟩ := b
 dsimp only at h
 have e0 := map_inj' (Ev.int_inj _) h.1
 have e1 := map_inj' (Ev.int_inj _) h.2.1
 have e2 := h.2.2
 subst e0 e1 e2
 rfl
theorem tys : (∀ x : GToken, encToken x = .agg [.int .i64 x.kind, .str x.s]) ∧
  (∀ x : GTokenSaid, encTokenSaid x = .agg [.slice (List.map (PV.int .u8) x.b) [] false, .slice (List.map (PV.int .i64) x.units) [] false, .bool x.ok]) := ⟨encToken_eq, encTokenSaid_eq⟩
theorem chks : (∀ x, chk shToken (encToken x) = true) ∧
  (∀ x, chk shTokenSaid (encTokenSaid x) = true) := ⟨chk_GToken, chk_GTokenSaid⟩
open Go Go.Ev Go.Ev.PV
def MTL : List (Nat × Hints) := [(5, { takes := [], gens := [], keeps := [(5, [0, 3, 4])], own := false, drop := true, vecs := [(17, 1)], frz := [(8, [3])] }),
 (11, { takes := [], gens := [], keeps := [], own := false, drop := true }),
 (12, { takes := [39], gens := [], keeps := [(7, [0, 2, 3, 4, 5])], own := false, drop := true }),
 (15, { takes := [], gens := [], keeps := [], own := false, drop := true }),
 (18, { takes := [], gens := [], keeps := [(2, [0, 2, 3])], own := false, drop := true }),
 (27, { takes := [], gens := [], keeps := [], own := false, drop := true }),
 (86, { takes := [18], gens := [], keeps := [], own := false, drop := false }),
 (85, { takes := [22, 41], gens := [36], keeps := [], own := false, drop := true }),
 (52, { takes := [51], gens := [31, 46, 62], keeps := [(3, [0, 1, 4, 5, 6, 7])], own := false, drop := true }),
 (28, { takes := [], gens := [], keeps := [], own := false, drop := true }),
 (32, { takes := [], gens := [], keeps := [], own := false, drop := true }),
 (35, { takes := [], gens := [], keeps := [], own := false, drop := true }),
 (36, { takes := [], gens := [], keeps := [], own := false, drop := true }),
 (49, { takes := [], gens := [], keeps := [], own := false, drop := true }),
 (50, { takes := [], gens := [], keeps := [(12, [0, 4, 6, 8]), (18, [1, 4, 45])], own := false, drop := true }),
 (51, { takes := [21, 25], gens := [], keeps := [(3, [0, 2, 3, 4, 5])], own := false, drop := true }),
 (100, { takes := [], gens := [], keeps := [(5, [0, 2, 3, 4, 10])], own := false, drop := true }),
 (54, { takes := [], gens := [], keeps := [], own := false, drop := true }),
 (17, { takes := [69, 72], gens := [], keeps := [(3, [0, 2, 3, 4, 5])], own := false, drop := true }),
 (53, { takes := [], gens := [], keeps := [], own := false, drop := true }),
 (55, { takes := [], gens := [], keeps := [], own := false, drop := true }),
 (56, { takes := [], gens := [], keeps := [(2, [0, 3])], own := false, drop := true }),
 (57, { takes := [], gens := [], keeps := [], own := false, drop := true }),
 (64, { takes := [], gens := [], keeps := [], own := false, drop := true }),
 (65, { takes := [], gens := [], keeps := [(2, [0, 3])], own := false, drop := true }),
 (66, { takes := [], gens := [], keeps := [], own := false, drop := true }),
 (69, { takes := [], gens := [], keeps := [], own := false, drop := true }),
 (80, { takes := [], gens := [], keeps := [], own := false, drop := true }),
 (19, { takes := [], gens := [], keeps := [(5, [3, 4, 5]), (8, [3]), (10, [3])], own := false, drop := true, vecs := [(7, 1)], frl := [(8, [3])], brw := [9] }),
 (34, { takes := [8, 13, 15], gens := [], keeps := [], own := true, drop := true }),
 (37, { takes := [22, 51], gens := [], keeps := [(4, [0, 3, 4, 5])], own := true, drop := true }),
 (38, { takes := [], gens := [], keeps := [(3, [3, 8, 9, 10])], own := false, drop := true }),
 (39, { takes := [], gens := [], keeps := [], own := false, drop := true }),
 (40, { takes := [], gens := [], keeps := [(12, [0, 1, 5, 39, 40, 41]), (22, [1, 8, 63, 64, 65])], own := false, drop := true }),
 (68, { takes := [8, 14, 34, 57], gens := [], keeps := [], own := true, drop := true }),
 (70, { takes := [], gens := [], keeps := [(2, [0, 2, 3, 6, 7])], own := false, drop := true })]
def MT (f : FuncId) : Hints := match Go.Ev.look MTL f with | some m => m | none => {}
def XT : Ext := fun f => Go.Ev.look [(40, xJoin), (50, xIndexAny), (54, xIndexByte), (69, xDecode)] f
noncomputable def O : Orc := OL Tryd.prog MT XT
def s3_TokenRoomE : Bool → PV := fun r => PV.bool r
theorem s3_TokenRoomEj (a b : Bool) (h : s3_TokenRoomE a = s3_TokenRoomE b) : a = b := Ev.bool_inj a b h
noncomputable def s3_TokenRoom (n : Int) : Option Bool := tO O 5 [(.int .i64 n)] [] fun r => (s3_TokenRoomE r, [])
theorem s3_TokenRoom_spec {n : Int} {r : Bool} (h : s3_TokenRoom n = some r) : O 5 [(.int .i64 n)] [] = some (s3_TokenRoomE r, []) := tO_spec (enc := fun r => (s3_TokenRoomE r, [])) h
def s3_awakeE : Bool → PV := fun r => PV.bool r
theorem s3_awakeEj (a b : Bool) (h : s3_awakeE a = s3_awakeE b) : a = b := Ev.bool_inj a b h
noncomputable def s3_awake : Option Bool := tO O 11 [] [] fun r => (s3_awakeE r, [])
theorem s3_awake_spec {r : Bool} (h : s3_awake = some r) : O 11 [] [] = some (s3_awakeE r, []) := tO_spec (enc := fun r => (s3_awakeE r, [])) h
def to_ReadE : ((List GToken) × Int) → PV := fun r => .tuple [(encSl encToken) r.1, (PV.int .i64) r.2]
theorem to_ReadEj (a b : (List GToken) × Int) (h : to_ReadE a = to_ReadE b) : a = b := by
 simp only [to_ReadE, PV.tuple.injEq, List.cons.injEq, and_true] at h
 exact Prod.ext ((Ev.encSl_inj inj_GToken) _ _ h.1) ((Ev.int_inj _) _ _ h.2)
noncomputable def to_Read (s : Str) : Option ((List GToken) × Int) := tO O 12 [(.str s)] [] fun r => (to_ReadE r, [])
theorem to_Read_spec {s : Str} {r : (List GToken) × Int} (h : to_Read s = some r) : O 12 [(.str s)] [] = some (to_ReadE r, []) := tO_spec (enc := fun r => (to_ReadE r, [])) h
def ls_SourceE : Bool → PV := fun r => PV.bool r
theorem ls_SourceEj (a b : Bool) (h : ls_SourceE a = ls_SourceE b) : a = b := Ev.bool_inj a b h
noncomputable def ls_Source (s : Str) : Option Bool := tO O 18 [(.str s)] [] fun r => (ls_SourceE r, [])
theorem ls_Source_spec {s : Str} {r : Bool} (h : ls_Source s = some r) : O 18 [(.str s)] [] = some (ls_SourceE r, []) := tO_spec (enc := fun r => (ls_SourceE r, [])) h
def to_gapE : Int → PV := fun r => (PV.int .i64) r
theorem to_gapEj (a b : Int) (h : to_gapE a = to_gapE b) : a = b := (Ev.int_inj _) a b h
noncomputable def to_gap (s : Str) : Option Int := tO O 27 [(.str s)] [] fun r => (to_gapE r, [])
theorem to_gap_spec {s : Str} {r : Int} (h : to_gap s = some r) : O 27 [(.str s)] [] = some (to_gapE r, []) := tO_spec (enc := fun r => (to_gapE r, [])) h
def tf_i2E : GTokenSaid → PV := fun r => .tuple []
def tf_i2U (u1_10 : List Int) (u1_100 : List Int) (u1_1000 : Bool) : GTokenSaid → UP := fun r => [[], [(10, [(.slice (List.map (PV.int .u8) r.b) [] true), (.slice (List.map (PV.int .i64) r.units) [] true), (.bool r.ok)])]]
theorem tf_i2Ej (u1_10 : List Int) (u1_100 : List Int) (u1_1000 : Bool) (a b : GTokenSaid) (h : (tf_i2E a, tf_i2U u1_10 u1_100 u1_1000 a) = (tf_i2E b, tf_i2U u1_10 u1_100 u1_1000 b)) : a = b := by
 obtain ⟨h1, h2⟩ := Prod.mk.inj h
 simp only [tf_i2E, tf_i2U, PV.tuple.injEq, List.cons.injEq, Prod.mk.injEq, and_true, true_and] at h1 h2
 exact inj_GTokenSaid _ _ (by rw [encTokenSaid_eq, encTokenSaid_eq]; simp only [PV.agg.injEq, List.cons.injEq, and_true]; exact ⟨(congrArg (fun v => PV.slice (esV v) [] false) h2.1), (congrArg (fun v => PV.slice (esV v) [] false) h2.2.1), h2.2.2⟩)
noncomputable def tf_i2 (u1_10 : List Int) (u1_100 : List Int) (u1_1000 : Bool) : Option GTokenSaid := tO O 86 [(.ptr 2 10 0)] [[], [(10, [(.slice (List.map (PV.int .u8) u1_10) [] true), (.slice (List.map (PV.int .i64) u1_100) [] true), (.bool u1_1000)])]] fun r => (tf_i2E r, (tf_i2U u1_10 u1_100 u1_1000 r))
theorem tf_i2_spec {u1_10 : List Int} {u1_100 : List Int} {u1_1000 : Bool} {r : GTokenSaid} (h : tf_i2 u1_10 u1_100 u1_1000 = some r) : O 86 [(.ptr 2 10 0)] [[], [(10, [(.slice (List.map (PV.int .u8) u1_10) [] true), (.slice (List.map (PV.int .i64) u1_100) [] true), (.bool u1_1000)])]] = some (tf_i2E r, (tf_i2U u1_10 u1_100 u1_1000 r)) := tO_spec (enc := fun r => (tf_i2E r, (tf_i2U u1_10 u1_100 u1_1000 r))) h
def te_i1E : (Int × GTokenSaid) → PV := fun r => (PV.int .i64) r.1
def te_i1U (s : Str) (u0_10 : List Int) (u0_100 : List Int) (u0_1000 : Bool) : (Int × GTokenSaid) → UP := fun r => [[(10, [(.slice (List.map (PV.int .u8) r.2.b) [] true), (.slice (List.map (PV.int .i64) r.2.units) [] true), (.bool r.2.ok)])]]
theorem te_i1Ej (s : Str) (u0_10 : List Int) (u0_100 : List Int) (u0_1000 : Bool) (a b : Int × GTokenSaid) (h : (te_i1E a, te_i1U s u0_10 u0_100 u0_1000 a) = (te_i1E b, te_i1U s u0_10 u0_100 u0_1000 b)) : a = b := by
 obtain ⟨h1, h2⟩ := Prod.mk.inj h
 simp only [te_i1E, te_i1U, PV.tuple.injEq, List.cons.injEq, Prod.mk.injEq, and_true, true_and] at h1 h2
 exact Prod.ext ((Ev.int_inj _) _ _ h1) (inj_GTokenSaid _ _ (by rw [encTokenSaid_eq, encTokenSaid_eq]; simp only [PV.agg.injEq, List.cons.injEq, and_true]; exact ⟨(congrArg (fun v => PV.slice (esV v) [] false) h2.1), (congrArg (fun v => PV.slice (esV v) [] false) h2.2.1), h2.2.2⟩))
noncomputable def te_i1 (s : Str) (u0_10 : List Int) (u0_100 : List Int) (u0_1000 : Bool) : Option (Int × GTokenSaid) := tO O 85 [(.ptr 1 10 0), (.str s)] [[(10, [(.slice (List.map (PV.int .u8) u0_10) [] true), (.slice (List.map (PV.int .i64) u0_100) [] true), (.bool u0_1000)])]] fun r => (te_i1E r, (te_i1U s u0_10 u0_100 u0_1000 r))
theorem te_i1_spec {s : Str} {u0_10 : List Int} {u0_100 : List Int} {u0_1000 : Bool} {r : Int × GTokenSaid} (h : te_i1 s u0_10 u0_100 u0_1000 = some r) : O 85 [(.ptr 1 10 0), (.str s)] [[(10, [(.slice (List.map (PV.int .u8) u0_10) [] true), (.slice (List.map (PV.int .i64) u0_100) [] true), (.bool u0_1000)])]] = some (te_i1E r, (te_i1U s u0_10 u0_100 u0_1000 r)) := tO_spec (enc := fun r => (te_i1E r, (te_i1U s u0_10 u0_100 u0_1000 r))) h
def tf_i3E : GTokenSaid → PV := fun r => .tuple []
def tf_i3U (u0_10 : List Int) (u0_100 : List Int) (u0_1000 : Bool) : GTokenSaid → UP := fun r => [[(10, [(.slice (List.map (PV.int .u8) r.b) [] true), (.slice (List.map (PV.int .i64) r.units) [] true), (.bool r.ok)])]]
theorem tf_i3Ej (u0_10 : List Int) (u0_100 : List Int) (u0_1000 : Bool) (a b : GTokenSaid) (h : (tf_i3E a, tf_i3U u0_10 u0_100 u0_1000 a) = (tf_i3E b, tf_i3U u0_10 u0_100 u0_1000 b)) : a = b := by
 obtain ⟨h1, h2⟩ := Prod.mk.inj h
 simp only [tf_i3E, tf_i3U, PV.tuple.injEq, List.cons.injEq, Prod.mk.injEq, and_true, true_and] at h1 h2
 exact inj_GTokenSaid _ _ (by rw [encTokenSaid_eq, encTokenSaid_eq]; simp only [PV.agg.injEq, List.cons.injEq, and_true]; exact ⟨(congrArg (fun v => PV.slice (esV v) [] false) h2.1), (congrArg (fun v => PV.slice (esV v) [] false) h2.2.1), h2.2.2⟩)
noncomputable def tf_i3 (u0_10 : List Int) (u0_100 : List Int) (u0_1000 : Bool) : Option GTokenSaid := tO O 86 [(.ptr 1 10 0)] [[(10, [(.slice (List.map (PV.int .u8) u0_10) [] true), (.slice (List.map (PV.int .i64) u0_100) [] true), (.bool u0_1000)])]] fun r => (tf_i3E r, (tf_i3U u0_10 u0_100 u0_1000 r))
theorem tf_i3_spec {u0_10 : List Int} {u0_100 : List Int} {u0_1000 : Bool} {r : GTokenSaid} (h : tf_i3 u0_10 u0_100 u0_1000 = some r) : O 86 [(.ptr 1 10 0)] [[(10, [(.slice (List.map (PV.int .u8) u0_10) [] true), (.slice (List.map (PV.int .i64) u0_100) [] true), (.bool u0_1000)])]] = some (tf_i3E r, (tf_i3U u0_10 u0_100 u0_1000 r)) := tO_spec (enc := fun r => (tf_i3E r, (tf_i3U u0_10 u0_100 u0_1000 r))) h
def to_QuotedE : (Str × Int) → PV := fun r => .tuple [PV.str r.1, (PV.int .i64) r.2]
theorem to_QuotedEj (a b : Str × Int) (h : to_QuotedE a = to_QuotedE b) : a = b := by
 simp only [to_QuotedE, PV.tuple.injEq, List.cons.injEq, and_true] at h
 exact Prod.ext (Ev.str_inj _ _ h.1) ((Ev.int_inj _) _ _ h.2)
noncomputable def to_Quoted (s : Str) : Option (Str × Int) := tO O 52 [(.str s), (.func (.func 53) [] [])] [] fun r => (to_QuotedE r, [])
theorem to_Quoted_spec {s : Str} {r : Str × Int} (h : to_Quoted s = some r) : O 52 [(.str s), (.func (.func 53) [] [])] [] = some (to_QuotedE r, []) := tO_spec (enc := fun r => (to_QuotedE r, [])) h
def to_oneE : (GToken × Int) → PV := fun r => .tuple [encToken r.1, (PV.int .i64) r.2]
theorem to_oneEj (a b : GToken × Int) (h : to_oneE a = to_oneE b) : a = b := by
 simp only [to_oneE, PV.tuple.injEq, List.cons.injEq, and_true] at h
 exact Prod.ext (inj_GToken _ _ h.1) ((Ev.int_inj _) _ _ h.2)
noncomputable def to_one (s : Str) : Option (GToken × Int) := tO O 28 [(.str s)] [] fun r => (to_oneE r, [])
theorem to_one_spec {s : Str} {r : GToken × Int} (h : to_one s = some r) : O 28 [(.str s)] [] = some (to_oneE r, []) := tO_spec (enc := fun r => (to_oneE r, [])) h
def to_numberE : (Int × Int) → PV := fun r => .tuple [(PV.int .i64) r.1, (PV.int .i64) r.2]
theorem to_numberEj (a b : Int × Int) (h : to_numberE a = to_numberE b) : a = b := by
 simp only [to_numberE, PV.tuple.injEq, List.cons.injEq, and_true] at h
 exact Prod.ext ((Ev.int_inj _) _ _ h.1) ((Ev.int_inj _) _ _ h.2)
noncomputable def to_number (s : Str) : Option (Int × Int) := tO O 32 [(.str s)] [] fun r => (to_numberE r, [])
theorem to_number_spec {s : Str} {r : Int × Int} (h : to_number s = some r) : O 32 [(.str s)] [] = some (to_numberE r, []) := tO_spec (enc := fun r => (to_numberE r, [])) h
def ls_CodeE : (Int × Int) → PV := fun r => .tuple [(PV.int .i64) r.1, (PV.int .i64) r.2]
theorem ls_CodeEj (a b : Int × Int) (h : ls_CodeE a = ls_CodeE b) : a = b := by
 simp only [ls_CodeE, PV.tuple.injEq, List.cons.injEq, and_true] at h
 exact Prod.ext ((Ev.int_inj _) _ _ h.1) ((Ev.int_inj _) _ _ h.2)
noncomputable def ls_Code (s : Str) (i : Int) : Option (Int × Int) := tO O 35 [(.str s), (.int .i64 i)] [] fun r => (ls_CodeE r, [])
theorem ls_Code_spec {s : Str} {i : Int} {r : Int × Int} (h : ls_Code s i = some r) : O 35 [(.str s), (.int .i64 i)] [] = some (ls_CodeE r, []) := tO_spec (enc := fun r => (ls_CodeE r, [])) h
def ls_signE : Bool → PV := fun r => PV.bool r
theorem ls_signEj (a b : Bool) (h : ls_signE a = ls_signE b) : a = b := Ev.bool_inj a b h
noncomputable def ls_sign (c : Int) : Option Bool := tO O 36 [(.int .i64 c)] [] fun r => (ls_signE r, [])
theorem ls_sign_spec {c : Int} {r : Bool} (h : ls_sign c = some r) : O 36 [(.int .i64 c)] [] = some (ls_signE r, []) := tO_spec (enc := fun r => (ls_signE r, [])) h
def st_HasPrefixE : Bool → PV := fun r => PV.bool r
theorem st_HasPrefixEj (a b : Bool) (h : st_HasPrefixE a = st_HasPrefixE b) : a = b := Ev.bool_inj a b h
noncomputable def st_HasPrefix (s : Str) (prefix0 : Str) : Option Bool := tO O 49 [(.str s), (.str prefix0)] [] fun r => (st_HasPrefixE r, [])
theorem st_HasPrefix_spec {s : Str} {prefix0 : Str} {r : Bool} (h : st_HasPrefix s prefix0 = some r) : O 49 [(.str s), (.str prefix0)] [] = some (st_HasPrefixE r, []) := tO_spec (enc := fun r => (st_HasPrefixE r, [])) h
def st_IndexAnyE : Int → PV := fun r => (PV.int .i64) r
theorem st_IndexAnyEj (a b : Int) (h : st_IndexAnyE a = st_IndexAnyE b) : a = b := (Ev.int_inj _) a b h
noncomputable def st_IndexAny (s : Str) (chars : Str) : Option Int := tO O 50 [(.str s), (.str chars)] [] fun r => (st_IndexAnyE r, [])
theorem st_IndexAny_spec {s : Str} {chars : Str} {r : Int} (h : st_IndexAny s chars = some r) : O 50 [(.str s), (.str chars)] [] = some (st_IndexAnyE r, []) := tO_spec (enc := fun r => (st_IndexAnyE r, [])) h
def to_blockedE : (Str × Int) → PV := fun r => .tuple [PV.str r.1, (PV.int .i64) r.2]
theorem to_blockedEj (a b : Str × Int) (h : to_blockedE a = to_blockedE b) : a = b := by
 simp only [to_blockedE, PV.tuple.injEq, List.cons.injEq, and_true] at h
 exact Prod.ext (Ev.str_inj _ _ h.1) ((Ev.int_inj _) _ _ h.2)
noncomputable def to_blocked (s : Str) : Option (Str × Int) := tO O 51 [(.str s)] [] fun r => (to_blockedE r, [])
theorem to_blocked_spec {s : Str} {r : Str × Int} (h : to_blocked s = some r) : O 51 [(.str s)] [] = some (to_blockedE r, []) := tO_spec (enc := fun r => (to_blockedE r, [])) h
def to_UnitE : (Int × Bool) → PV := fun r => .tuple [(PV.int .i64) r.1, PV.bool r.2]
theorem to_UnitEj (a b : Int × Bool) (h : to_UnitE a = to_UnitE b) : a = b := by
 simp only [to_UnitE, PV.tuple.injEq, List.cons.injEq, and_true] at h
 exact Prod.ext ((Ev.int_inj _) _ _ h.1) (Ev.bool_inj _ _ h.2)
noncomputable def to_Unit (s : Str) : Option (Int × Bool) := tO O 100 [(.str s)] [] fun r => (to_UnitE r, [])
theorem to_Unit_spec {s : Str} {r : Int × Bool} (h : to_Unit s = some r) : O 100 [(.str s)] [] = some (to_UnitE r, []) := tO_spec (enc := fun r => (to_UnitE r, [])) h
def st_IndexByteE : Int → PV := fun r => (PV.int .i64) r
theorem st_IndexByteEj (a b : Int) (h : st_IndexByteE a = st_IndexByteE b) : a = b := (Ev.int_inj _) a b h
noncomputable def st_IndexByte (s : Str) (c : Int) : Option Int := tO O 54 [(.str s), (.int .u8 c)] [] fun r => (st_IndexByteE r, [])
theorem st_IndexByte_spec {s : Str} {c : Int} {r : Int} (h : st_IndexByte s c = some r) : O 54 [(.str s), (.int .u8 c)] [] = some (st_IndexByteE r, []) := tO_spec (enc := fun r => (st_IndexByteE r, [])) h
def ls_JoinE : (Str × Bool) → PV := fun r => .tuple [PV.str r.1, PV.bool r.2]
theorem ls_JoinEj (a b : Str × Bool) (h : ls_JoinE a = ls_JoinE b) : a = b := by
 simp only [ls_JoinE, PV.tuple.injEq, List.cons.injEq, and_true] at h
 exact Prod.ext (Ev.str_inj _ _ h.1) (Ev.bool_inj _ _ h.2)
noncomputable def ls_Join (units : List Int) : Option (Str × Bool) := tO O 17 [(.slice (List.map (PV.int .i64) units) [] false)] [] fun r => (ls_JoinE r, [])
theorem ls_Join_spec {units : List Int} {r : Str × Bool} (h : ls_Join units = some r) : O 17 [(.slice (List.map (PV.int .i64) units) [] false)] [] = some (ls_JoinE r, []) := tO_spec (enc := fun r => (ls_JoinE r, [])) h
def to_plainE : Bool → PV := fun r => PV.bool r
theorem to_plainEj (a b : Bool) (h : to_plainE a = to_plainE b) : a = b := Ev.bool_inj a b h
noncomputable def to_plain (c : Int) : Option Bool := tO O 53 [(.int .u8 c)] [] fun r => (to_plainE r, [])
theorem to_plain_spec {c : Int} {r : Bool} (h : to_plain c = some r) : O 53 [(.int .u8 c)] [] = some (to_plainE r, []) := tO_spec (enc := fun r => (to_plainE r, [])) h
def ls_LetterE : Bool → PV := fun r => PV.bool r
theorem ls_LetterEj (a b : Bool) (h : ls_LetterE a = ls_LetterE b) : a = b := Ev.bool_inj a b h
noncomputable def ls_Letter (c : Int) : Option Bool := tO O 55 [(.int .u8 c)] [] fun r => (ls_LetterE r, [])
theorem ls_Letter_spec {c : Int} {r : Bool} (h : ls_Letter c = some r) : O 55 [(.int .u8 c)] [] = some (ls_LetterE r, []) := tO_spec (enc := fun r => (ls_LetterE r, [])) h
def to_wordE : Int → PV := fun r => (PV.int .i64) r
theorem to_wordEj (a b : Int) (h : to_wordE a = to_wordE b) : a = b := (Ev.int_inj _) a b h
noncomputable def to_word (s : Str) : Option Int := tO O 56 [(.str s)] [] fun r => (to_wordE r, [])
theorem to_word_spec {s : Str} {r : Int} (h : to_word s = some r) : O 56 [(.str s)] [] = some (to_wordE r, []) := tO_spec (enc := fun r => (to_wordE r, [])) h
def ls_DigitE : Bool → PV := fun r => PV.bool r
theorem ls_DigitEj (a b : Bool) (h : ls_DigitE a = ls_DigitE b) : a = b := Ev.bool_inj a b h
noncomputable def ls_Digit (c : Int) : Option Bool := tO O 57 [(.int .u8 c)] [] fun r => (ls_DigitE r, [])
theorem ls_Digit_spec {c : Int} {r : Bool} (h : ls_Digit c = some r) : O 57 [(.int .u8 c)] [] = some (ls_DigitE r, []) := tO_spec (enc := fun r => (ls_DigitE r, [])) h
def to_wholeE : Int → PV := fun r => (PV.int .i64) r
theorem to_wholeEj (a b : Int) (h : to_wholeE a = to_wholeE b) : a = b := (Ev.int_inj _) a b h
noncomputable def to_whole (s : Str) : Option Int := tO O 64 [(.str s)] [] fun r => (to_wholeE r, [])
theorem to_whole_spec {s : Str} {r : Int} (h : to_whole s = some r) : O 64 [(.str s)] [] = some (to_wholeE r, []) := tO_spec (enc := fun r => (to_wholeE r, [])) h
def to_digitsE : Int → PV := fun r => (PV.int .i64) r
theorem to_digitsEj (a b : Int) (h : to_digitsE a = to_digitsE b) : a = b := (Ev.int_inj _) a b h
noncomputable def to_digits (s : Str) : Option Int := tO O 65 [(.str s)] [] fun r => (to_digitsE r, [])
theorem to_digits_spec {s : Str} {r : Int} (h : to_digits s = some r) : O 65 [(.str s)] [] = some (to_digitsE r, []) := tO_spec (enc := fun r => (to_digitsE r, [])) h
def to_powerE : Int → PV := fun r => (PV.int .i64) r
theorem to_powerEj (a b : Int) (h : to_powerE a = to_powerE b) : a = b := (Ev.int_inj _) a b h
noncomputable def to_power (s : Str) : Option Int := tO O 66 [(.str s)] [] fun r => (to_powerE r, [])
theorem to_power_spec {s : Str} {r : Int} (h : to_power s = some r) : O 66 [(.str s)] [] = some (to_powerE r, []) := tO_spec (enc := fun r => (to_powerE r, [])) h
def uf_DecodeRuneInStringE : (Int × Int) → PV := fun r => .tuple [(PV.int .i32) r.1, (PV.int .i64) r.2]
theorem uf_DecodeRuneInStringEj (a b : Int × Int) (h : uf_DecodeRuneInStringE a = uf_DecodeRuneInStringE b) : a = b := by
 simp only [uf_DecodeRuneInStringE, PV.tuple.injEq, List.cons.injEq, and_true] at h
 exact Prod.ext ((Ev.int_inj _) _ _ h.1) ((Ev.int_inj _) _ _ h.2)
noncomputable def uf_DecodeRuneInString (s : Str) : Option (Int × Int) := tO O 69 [(.str s)] [] fun r => (uf_DecodeRuneInStringE r, [])
theorem uf_DecodeRuneInString_spec {s : Str} {r : Int × Int} (h : uf_DecodeRuneInString s = some r) : O 69 [(.str s)] [] = some (uf_DecodeRuneInStringE r, []) := tO_spec (enc := fun r => (uf_DecodeRuneInStringE r, [])) h
def sl_HasPrefixE : Bool → PV := fun r => PV.bool r
theorem sl_HasPrefixEj (a b : Bool) (h : sl_HasPrefixE a = sl_HasPrefixE b) : a = b := Ev.bool_inj a b h
noncomputable def sl_HasPrefix (s : Str) (prefix0 : Str) : Option Bool := tO O 80 [(.str s), (.str prefix0)] [] fun r => (sl_HasPrefixE r, [])
theorem sl_HasPrefix_spec {s : Str} {prefix0 : Str} {r : Bool} (h : sl_HasPrefix s prefix0 = some r) : O 80 [(.str s), (.str prefix0)] [] = some (sl_HasPrefixE r, []) := tO_spec (enc := fun r => (sl_HasPrefixE r, [])) h
def bo_ValueE : Str → PV := fun r => PV.str r
theorem bo_ValueEj (a b : Str) (h : bo_ValueE a = bo_ValueE b) : a = b := Ev.str_inj a b h
noncomputable def bo_Value (raw : Str) : Option Str := tO O 19 [(.str raw)] [] fun r => (bo_ValueE r, [])
theorem bo_Value_spec {raw : Str} {r : Str} (h : bo_Value raw = some r) : O 19 [(.str raw)] [] = some (bo_ValueE r, []) := tO_spec (enc := fun r => (bo_ValueE r, [])) h
def uf_AppendRuneE : (List Int) → PV := fun r => .slice (List.map (PV.int .u8) r) [] true
theorem uf_AppendRuneEj (a b : List Int) (h : uf_AppendRuneE a = uf_AppendRuneE b) : a = b := Ev.encSlO_inj (Ev.int_inj _) a b h
noncomputable def uf_AppendRune (p0 : List Int) (r0 : Int) : Option (List Int) := tO O 34 [(.slice (List.map (PV.int .u8) p0) [] true), (.int .i32 r0)] [] fun r => (uf_AppendRuneE r, [])
theorem uf_AppendRune_spec {p0 : List Int} {r0 : Int} {r : List Int} (h : uf_AppendRune p0 r0 = some r) : O 34 [(.slice (List.map (PV.int .u8) p0) [] true), (.int .i32 r0)] [] = some (uf_AppendRuneE r, []) := tO_spec (enc := fun r => (uf_AppendRuneE r, [])) h
def bo_LinesE : (List Str) → PV := fun r => .slice (List.map PV.str r) [] true
theorem bo_LinesEj (a b : List Str) (h : bo_LinesE a = bo_LinesE b) : a = b := Ev.encSlO_inj Ev.str_inj a b h
noncomputable def bo_Lines (s : Str) : Option (List Str) := tO O 37 [(.str s)] [] fun r => (bo_LinesE r, [])
theorem bo_Lines_spec {s : Str} {r : List Str} (h : bo_Lines s = some r) : O 37 [(.str s)] [] = some (bo_LinesE r, []) := tO_spec (enc := fun r => (bo_LinesE r, [])) h
def bo_IndentE : Int → PV := fun r => (PV.int .i64) r
theorem bo_IndentEj (a b : Int) (h : bo_IndentE a = bo_IndentE b) : a = b := (Ev.int_inj _) a b h
noncomputable def bo_Indent (l0 : List Str) : Option Int := tO O 38 [(.slice (List.map PV.str l0) [] false)] [] fun r => (bo_IndentE r, [])
theorem bo_Indent_spec {l0 : List Str} {r : Int} (h : bo_Indent l0 = some r) : O 38 [(.slice (List.map PV.str l0) [] false)] [] = some (bo_IndentE r, []) := tO_spec (enc := fun r => (bo_IndentE r, [])) h
def bo_bareE : Bool → PV := fun r => PV.bool r
theorem bo_bareEj (a b : Bool) (h : bo_bareE a = bo_bareE b) : a = b := Ev.bool_inj a b h
noncomputable def bo_bare (s : Str) : Option Bool := tO O 39 [(.str s)] [] fun r => (bo_bareE r, [])
theorem bo_bare_spec {s : Str} {r : Bool} (h : bo_bare s = some r) : O 39 [(.str s)] [] = some (bo_bareE r, []) := tO_spec (enc := fun r => (bo_bareE r, [])) h
def st_JoinE : Str → PV := fun r => PV.str r
theorem st_JoinEj (a b : Str) (h : st_JoinE a = st_JoinE b) : a = b := Ev.str_inj a b h
noncomputable def st_Join (elems : List Str) (sep : Str) : Option Str := tO O 40 [(.slice (List.map PV.str elems) [] false), (.str sep)] [] fun r => (st_JoinE r, [])
theorem st_Join_spec {elems : List Str} {sep : Str} {r : Str} (h : st_Join elems sep = some r) : O 40 [(.slice (List.map PV.str elems) [] false), (.str sep)] [] = some (st_JoinE r, []) := tO_spec (enc := fun r => (st_JoinE r, [])) h
def uf_appendRuneNonASCIIE : (List Int) → PV := fun r => .slice (List.map (PV.int .u8) r) [] true
theorem uf_appendRuneNonASCIIEj (a b : List Int) (h : uf_appendRuneNonASCIIE a = uf_appendRuneNonASCIIE b) : a = b := Ev.encSlO_inj (Ev.int_inj _) a b h
noncomputable def uf_appendRuneNonASCII (p0 : List Int) (r0 : Int) : Option (List Int) := tO O 68 [(.slice (List.map (PV.int .u8) p0) [] true), (.int .i32 r0)] [] fun r => (uf_appendRuneNonASCIIE r, [])
theorem uf_appendRuneNonASCII_spec {p0 : List Int} {r0 : Int} {r : List Int} (h : uf_appendRuneNonASCII p0 r0 = some r) : O 68 [(.slice (List.map (PV.int .u8) p0) [] true), (.int .i32 r0)] [] = some (uf_appendRuneNonASCIIE r, []) := tO_spec (enc := fun r => (uf_appendRuneNonASCIIE r, [])) h
def bo_blanksE : (Int × Bool) → PV := fun r => .tuple [(PV.int .i64) r.1, PV.bool r.2]
theorem bo_blanksEj (a b : Int × Bool) (h : bo_blanksE a = bo_blanksE b) : a = b := by
 simp only [bo_blanksE, PV.tuple.injEq, List.cons.injEq, and_true] at h
 exact Prod.ext ((Ev.int_inj _) _ _ h.1) (Ev.bool_inj _ _ h.2)
noncomputable def bo_blanks (s : Str) : Option (Int × Bool) := tO O 70 [(.str s)] [] fun r => (bo_blanksE r, [])
theorem bo_blanks_spec {s : Str} {r : Int × Bool} (h : bo_blanks s = some r) : O 70 [(.str s)] [] = some (bo_blanksE r, []) := tO_spec (enc := fun r => (bo_blanksE r, [])) h
def bkToken (x : GToken) : Nat := (bk1 x.kind + (bkStr x.s + (0))) + 1
def gdToken (x : GToken) : Prop := (gdI .i64) x.kind ∧ (gd1 x.s ∧ (True))
theorem bkToken_eq (x : GToken) : bkToken x = (bk1 x.kind + (bkStr x.s + (0))) + 1 := rfl
theorem gdToken_eq (x : GToken) : gdToken x = ((gdI .i64) x.kind ∧ (gd1 x.s ∧ (True))) := rfl
def bkTokenSaid (x : GTokenSaid) : Nat := ((bkSl bk1) x.b + ((bkSl bk1) x.units + (bk1 x.ok + (0)))) + 1
def gdTokenSaid (x : GTokenSaid) : Prop := (gdSl (gdI .u8)) x.b ∧ ((gdSl (gdI .i64)) x.units ∧ (gd1 x.ok ∧ (True)))
theorem bkTokenSaid_eq (x : GTokenSaid) : bkTokenSaid x = ((bkSl bk1) x.b + ((bkSl bk1) x.units + (bk1 x.ok + (0)))) + 1 := rfl
theorem gdTokenSaid_eq (x : GTokenSaid) : gdTokenSaid x = ((gdSl (gdI .u8)) x.b ∧ ((gdSl (gdI .i64)) x.units ∧ (gd1 x.ok ∧ (True)))) := rfl
def TS : Nat → TypeId
 | 0 => 31
 | _ => 94
def BS : Nat → Ty
 | 0 => (.fcons (.int .i64) (.fcons .str .fnil))
 | _ => (.fcons (.sl (.int .u8)) (.fcons (.sl (.int .i64)) (.fcons .bool .fnil)))
abbrev recToken : RecTy := ⟨GToken, encToken, 2, bkToken, gdToken, fun x => wf_agg _ (encToken_eq x) rfl rfl⟩
abbrev recTokenSaid : RecTy := ⟨GTokenSaid, encTokenSaid, 3, bkTokenSaid, gdTokenSaid, fun x => wf_agg _ (encTokenSaid_eq x) rfl rfl⟩
abbrev RS : REnv
 | 0 => recToken
 | _ => recTokenSaid
theorem hty : ∀ i, ∃ F, Tryd.prog.underlying (TS i) = some (.struct F) ∧ Tryd.prog.cellsOf (TS i) = (BS i).size RS ∧ flds RS Tryd.prog (tyOk RS TS Tryd.prog 9) F.toList 0 (BS i) = true
 | 0 => ⟨_, Tryd.underlying31, by kernel_rfl, by kernel_rfl⟩
 | _ + 1 => ⟨_, Tryd.underlying94, by kernel_rfl, by kernel_rfl⟩
theorem cvToken (x0 : Int) (x1 : Str) : encToken ⟨x0, x1⟩ = (PV.agg (((PV.int .i64) x0).cells ++ (PV.agg ((PV.str x1).cells ++ (PV.agg []).cells)).cells)) := by
 simp only [tys, cells, List.cons_append, List.nil_append]
theorem cvTokenSaid (x0 : List Int) (x1 : List Int) (x2 : Bool) : encTokenSaid ⟨x0, x1, x2⟩ = (PV.agg ((PV.slice (List.map (PV.int .u8) x0) [] false).cells ++ (PV.agg ((PV.slice (List.map (PV.int .i64) x1) [] false).cells ++ (PV.agg ((PV.bool x2).cells ++ (PV.agg []).cells)).cells)).cells)) := by
 simp only [tys, cells, List.cons_append, List.nil_append]
theorem hcv : ∀ i (x : (BS i).den RS), ∃ y : (RS i).D, (RS i).en y = enc RS (BS i) x ∧ (RS i).bk y ≤ bulk RS (BS i) x + 1 ∧ (good RS (BS i) x → (RS i).gd y)
 | 0, ⟨x0, x1, _⟩ => ⟨(⟨x0, x1⟩ : GToken), (cvToken x0 x1).trans rfl, Nat.le_of_eq ((bkToken_eq _).trans rfl), fun h => (gdToken_eq _).mpr h⟩
 | _ + 1, ⟨x0, x1, x2, _⟩ => ⟨(⟨x0, x1, x2⟩ : GTokenSaid), (cvTokenSaid x0 x1 x2).trans rfl, Nat.le_of_eq ((bkTokenSaid_eq _).trans rfl), fun h => (gdTokenSaid_eq _).mpr h⟩
theorem rok {H : Type} (e : TypeId × Value → H) (W : World) {bl : DataW H → Nat} {bla : List (DataW H) → Nat} (hb : BlOk bl bla) : ROk RS TS e Tryd.prog W bl where
 op := open_ext hb 9 BS hty hcv
 ag := fun i => match i with
  | 0 => fun x => ⟨_, encToken_eq x⟩
  | _ + 1 => fun x => ⟨_, encTokenSaid_eq x⟩
 st := fun i => (hty i).imp fun F h => h.1
end Go.Proofs.YtafndpggajdmiaaDoor
