import Derived.Test.YtafndpggajdmiaaDoorEEd
import Derived.Test.YtafndpggajdmiaaDoorProg
import Derived.KernelRfl
set_option linter.unusedVariables false
set_option linter.unusedSimpArgs false
set_option linter.unusedSimpArgs false
open Go Go.Ev Go.Ev.PV
namespace Go.Proofs.YtafndpggajdmiaaDoor
structure GToken where
 kind : Int
 s : Str
structure GTokenSaid where
 b : List Int
 units : List Int
 ok : Bool
def shToken : Sh := .agg [(.int .i64), .str]
def shTokenSaid : Sh := .agg [(.sl false), (.sl false), .bool]
def encToken (x : GToken) : PV := .agg [.int .i64 x.kind, .str x.s]
theorem encToken_eq (x : GToken) : encToken x = .agg [.int .i64 x.kind, .str x.s] := rfl
theorem chk_GToken (x : GToken) : chk shToken (encToken x) = true := by rw [encToken_eq]; rfl
theorem inj_GToken (a b : GToken) (h : encToken a = encToken b) : a = b := by
 simp only [encToken_eq, PV.agg.injEq, List.cons.injEq, PV.slice.injEq, PV.str.injEq, PV.int.injEq, PV.bool.injEq, true_and, and_true] at h
 obtain ⟨a0, a1⟩ := a
 obtain ⟨b0, b1⟩ := b
 dsimp only at h
 have e0 := h.1
 have e1 := h.2
 subst e0 e1
 rfl
def encTokenSaid (x : GTokenSaid) : PV := .agg [.slice (List.map (PV.int .u8) x.b) [] false, .slice (List.map (PV.int .i64) x.units) [] false, .bool x.ok]
theorem encTokenSaid_eq (x : GTokenSaid) : encTokenSaid x = .agg [.slice (List.map (PV.int .u8) x.b) [] false, .slice (List.map (PV.int .i64) x.units) [] false, .bool x.ok] := rfl
theorem chk_GTokenSaid (x : GTokenSaid) : chk shTokenSaid (encTokenSaid x) = true := by rw [encTokenSaid_eq]; rfl
theorem tys : (∀ x : GToken, encToken x = .agg [.int .i64 x.kind, .str x.s]) ∧
  (∀ x : GTokenSaid, encTokenSaid x = .agg [.slice (List.map (PV.int .u8) x.b) [] false, .slice (List.map (PV.int .i64) x.units) [] false, .bool x.ok]) := ⟨encToken_eq, encTokenSaid_eq⟩
theorem chks : (∀ x, chk shToken (encToken x) = true) ∧
  (∀ x, chk shTokenSaid (encTokenSaid x) = true) := ⟨chk_GToken, chk_GTokenSaid⟩
open Go Go.Ev Go.Ev.PV
def MTL : List (Nat × Hints) := [(8, { takes := [51, 53], gens := [], keeps := [(7, [0, 2, 3, 4, 5, 6, 7, 8])], own := false, drop := true }),
 (20, { takes := [], gens := [], keeps := [(3, [0, 3, 4])], own := false, drop := true }),
 (11, { takes := [], gens := [], keeps := [], own := false, drop := true }),
 (21, { takes := [], gens := [], keeps := [], own := true, drop := true }),
 (22, { takes := [13, 26], gens := [], keeps := [(3, [2, 3, 4, 7, 8, 9])], own := false, drop := true }),
 (23, { takes := [], gens := [], keeps := [(3, [0, 2, 3, 4, 5])], own := false, drop := true }),
 (24, { takes := [], gens := [], keeps := [], own := false, drop := true }),
 (25, { takes := [], gens := [], keeps := [], own := false, drop := true }),
 (26, { takes := [12], gens := [], keeps := [(4, [0, 1, 4, 5])], own := false, drop := true }),
 (12, { takes := [39], gens := [], keeps := [(7, [0, 2, 3, 4, 5])], own := false, drop := true }),
 (15, { takes := [], gens := [], keeps := [], own := false, drop := true }),
 (41, { takes := [22, 37, 45, 71, 73, 79], gens := [], keeps := [(3, [0, 3, 4]), (13, [0, 3, 4, 6, 65, 66, 67])], own := false, drop := true }),
 (40, { takes := [], gens := [], keeps := [(12, [0, 1, 5, 39, 40, 41]), (22, [1, 8, 63, 64, 65])], own := false, drop := true }),
 (42, { takes := [], gens := [], keeps := [(4, [3, 5, 6])], own := false, drop := true }),
 (43, { takes := [], gens := [], keeps := [], own := false, drop := true }),
 (44, { takes := [], gens := [], keeps := [(2, [0, 2, 5, 6])], own := false, drop := true }),
 (45, { takes := [], gens := [], keeps := [], own := false, drop := true }),
 (46, { takes := [], gens := [], keeps := [(2, [0, 1, 4, 5])], own := false, drop := true }),
 (47, { takes := [], gens := [], keeps := [(4, [0, 2, 3])], own := false, drop := true }),
 (16, { takes := [], gens := [], keeps := [], own := false, drop := true }),
 (48, { takes := [], gens := [], keeps := [], own := false, drop := true }),
 (18, { takes := [], gens := [], keeps := [(2, [0, 2, 3])], own := false, drop := true }),
 (27, { takes := [], gens := [], keeps := [], own := false, drop := true }),
 (86, { takes := [18], gens := [], keeps := [], own := false, drop := false }),
 (85, { takes := [22, 41], gens := [36], keeps := [], own := false, drop := true }),
 (52, { takes := [51], gens := [31, 46, 62], keeps := [(3, [0, 1, 4, 5, 6, 7])], own := false, drop := true }),
 (28, { takes := [], gens := [], keeps := [], own := false, drop := true }),
 (32, { takes := [], gens := [], keeps := [], own := false, drop := true }),
 (35, { takes := [], gens := [], keeps := [], own := false, drop := true }),
 (74, { takes := [18, 28], gens := [], keeps := [(3, [0, 2, 3, 4, 5])], own := false, drop := true }),
 (75, { takes := [6, 13, 22], gens := [], keeps := [(3, [0, 1, 5])], own := true, drop := true }),
 (58, { takes := [20], gens := [], keeps := [(3, [0, 2, 3, 4, 5])], own := false, drop := true }),
 (76, { takes := [], gens := [], keeps := [], own := false, drop := true }),
 (77, { takes := [], gens := [], keeps := [], own := false, drop := true }),
 (55, { takes := [], gens := [], keeps := [], own := false, drop := true }),
 (57, { takes := [], gens := [], keeps := [], own := false, drop := true }),
 (79, { takes := [], gens := [], keeps := [(1, [0, 2]), (9, [0])], own := false, drop := true }),
 (62, { takes := [], gens := [], keeps := [], own := false, drop := true }),
 (63, { takes := [], gens := [], keeps := [], own := false, drop := true }),
 (33, { takes := [], gens := [], keeps := [], own := false, drop := true }),
 (36, { takes := [], gens := [], keeps := [], own := false, drop := true }),
 (49, { takes := [], gens := [], keeps := [], own := false, drop := true }),
 (50, { takes := [], gens := [], keeps := [(12, [0, 4, 6, 8]), (18, [1, 4, 45])], own := false, drop := true }),
 (51, { takes := [21, 25], gens := [], keeps := [(3, [0, 2, 3, 4, 5])], own := false, drop := true }),
 (100, { takes := [], gens := [], keeps := [(5, [0, 2, 3, 4, 10])], own := false, drop := true }),
 (54, { takes := [], gens := [], keeps := [], own := false, drop := true }),
 (17, { takes := [69, 72], gens := [], keeps := [(3, [0, 2, 3, 4, 5])], own := false, drop := true }),
 (53, { takes := [], gens := [], keeps := [], own := false, drop := true }),
 (56, { takes := [], gens := [], keeps := [(2, [0, 3])], own := false, drop := true }),
 (64, { takes := [], gens := [], keeps := [], own := false, drop := true }),
 (65, { takes := [], gens := [], keeps := [(2, [0, 3])], own := false, drop := true }),
 (66, { takes := [], gens := [], keeps := [], own := false, drop := true }),
 (69, { takes := [], gens := [], keeps := [], own := false, drop := true }),
 (88, { takes := [], gens := [], keeps := [(17, [0, 1, 4, 5, 6, 7, 8, 9])], own := false, drop := true }),
 (67, { takes := [], gens := [], keeps := [(2, [0, 1, 5])], own := false, drop := true }),
 (80, { takes := [], gens := [], keeps := [], own := false, drop := true }),
 (19, { takes := [], gens := [], keeps := [(5, [3, 4, 5]), (8, [3]), (10, [3])], own := false, drop := true, vecs := [(7, 1)], frl := [(8, [3])], brw := [9] }),
 (34, { takes := [8, 13, 15], gens := [], keeps := [], own := true, drop := true }),
 (37, { takes := [22, 51], gens := [], keeps := [(4, [0, 3, 4, 5])], own := true, drop := true }),
 (38, { takes := [], gens := [], keeps := [(3, [3, 8, 9, 10])], own := false, drop := true }),
 (39, { takes := [], gens := [], keeps := [], own := false, drop := true }),
 (68, { takes := [8, 14, 34, 57], gens := [], keeps := [], own := true, drop := true }),
 (70, { takes := [], gens := [], keeps := [(2, [0, 2, 3, 6, 7])], own := false, drop := true })]
def MT (f : FuncId) : Hints := match Go.Ev.look MTL f with | some m => m | none => {}
def XT : Ext := fun f => Go.Ev.look [(40, xJoin), (43, xContains), (50, xIndexAny), (54, xIndexByte), (69, xDecode), (79, xValid)] f
noncomputable def O : Orc := OL Tryd.prog MT XT
def s3_TokenPrintsE : Bool → PV := fun r => PV.bool r
theorem s3_TokenPrintsEj (a b : Bool) (h : s3_TokenPrintsE a = s3_TokenPrintsE b) : a = b := Ev.bool_inj a b h
noncomputable def s3_TokenPrints (l0 : List GToken) : Option Bool := tO O 8 [(.slice (List.map encToken l0) [] false)] [] fun r => (s3_TokenPrintsE r, [])
theorem s3_TokenPrints_spec {l0 : List GToken} {r : Bool} (h : s3_TokenPrints l0 = some r) : O 8 [(.slice (List.map encToken l0) [] false)] [] = some (s3_TokenPrintsE r, []) := tO_spec (enc := fun r => (s3_TokenPrintsE r, [])) h
def s3_shortE : Bool → PV := fun r => PV.bool r
theorem s3_shortEj (a b : Bool) (h : s3_shortE a = s3_shortE b) : a = b := Ev.bool_inj a b h
noncomputable def s3_short (l0 : List GToken) : Option Bool := tO O 20 [(.slice (List.map encToken l0) [] false)] [] fun r => (s3_shortE r, [])
theorem s3_short_spec {l0 : List GToken} {r : Bool} (h : s3_short l0 = some r) : O 20 [(.slice (List.map encToken l0) [] false)] [] = some (s3_shortE r, []) := tO_spec (enc := fun r => (s3_shortE r, [])) h
def s3_awakeE : Bool → PV := fun r => PV.bool r
theorem s3_awakeEj (a b : Bool) (h : s3_awakeE a = s3_awakeE b) : a = b := Ev.bool_inj a b h
noncomputable def s3_awake : Option Bool := tO O 11 [] [] fun r => (s3_awakeE r, [])
theorem s3_awake_spec {r : Bool} (h : s3_awake = some r) : O 11 [] [] = some (s3_awakeE r, []) := tO_spec (enc := fun r => (s3_awakeE r, [])) h
def seinekeep_TokensE : ((List GToken × List GToken)) → PV := fun r => .slice (List.map encToken r.1) (List.map encToken r.2) false
theorem seinekeep_TokensEj (a b : (List GToken × List GToken)) (h : seinekeep_TokensE a = seinekeep_TokensE b) : a = b := Ev.encSlB_inj inj_GToken a b h
noncomputable def seinekeep_Tokens (l0 : List GToken) : Option (List GToken × List GToken) := tO O 21 [(.slice (List.map encToken l0) [] false)] [] fun r => (seinekeep_TokensE r, [])
theorem seinekeep_Tokens_spec {l0 : List GToken} {r : (List GToken × List GToken)} (h : seinekeep_Tokens l0 = some r) : O 21 [(.slice (List.map encToken l0) [] false)] [] = some (seinekeep_TokensE r, []) := tO_spec (enc := fun r => (seinekeep_TokensE r, [])) h
def to_PrintE : (Str × Bool) → PV := fun r => .tuple [PV.str r.1, PV.bool r.2]
theorem to_PrintEj (a b : Str × Bool) (h : to_PrintE a = to_PrintE b) : a = b := by
 simp only [to_PrintE, PV.tuple.injEq, List.cons.injEq, and_true] at h
 exact Prod.ext (Ev.str_inj _ _ h.1) (Ev.bool_inj _ _ h.2)
noncomputable def to_Print (l0 : List GToken) : Option (Str × Bool) := tO O 22 [(.slice (List.map encToken l0) [] false)] [] fun r => (to_PrintE r, [])
theorem to_Print_spec {l0 : List GToken} {r : Str × Bool} (h : to_Print l0 = some r) : O 22 [(.slice (List.map encToken l0) [] false)] [] = some (to_PrintE r, []) := tO_spec (enc := fun r => (to_PrintE r, [])) h
def r1_PrintE : (Str × Bool) → PV := fun r => .tuple [PV.str r.1, PV.bool r.2]
theorem r1_PrintEj (a b : Str × Bool) (h : r1_PrintE a = r1_PrintE b) : a = b := by
 simp only [r1_PrintE, PV.tuple.injEq, List.cons.injEq, and_true] at h
 exact Prod.ext (Ev.str_inj _ _ h.1) (Ev.bool_inj _ _ h.2)
noncomputable def r1_Print (l0 : List GToken) : Option (Str × Bool) := tO O 23 [(.slice (List.map encToken l0) [] false)] [] fun r => (r1_PrintE r, [])
theorem r1_Print_spec {l0 : List GToken} {r : Str × Bool} (h : r1_Print l0 = some r) : O 23 [(.slice (List.map encToken l0) [] false)] [] = some (r1_PrintE r, []) := tO_spec (enc := fun r => (r1_PrintE r, [])) h
def to_RightE : Bool → PV := fun r => PV.bool r
theorem to_RightEj (a b : Bool) (h : to_RightE a = to_RightE b) : a = b := Ev.bool_inj a b h
noncomputable def to_Right (t : GToken) : Option Bool := tO O 24 [(.agg [(.int .i64 t.kind), (.str t.s)])] [] fun r => (to_RightE r, [])
theorem to_Right_spec {t : GToken} {r : Bool} (h : to_Right t = some r) : O 24 [(.agg [(.int .i64 t.kind), (.str t.s)])] [] = some (to_RightE r, []) := tO_spec (enc := fun r => (to_RightE r, [])) h
def r1_RightTokenE : Bool → PV := fun r => PV.bool r
theorem r1_RightTokenEj (a b : Bool) (h : r1_RightTokenE a = r1_RightTokenE b) : a = b := Ev.bool_inj a b h
noncomputable def r1_RightToken (t : GToken) : Option Bool := tO O 25 [(.agg [(.int .i64 t.kind), (.str t.s)])] [] fun r => (r1_RightTokenE r, [])
theorem r1_RightToken_spec {t : GToken} {r : Bool} (h : r1_RightToken t = some r) : O 25 [(.agg [(.int .i64 t.kind), (.str t.s)])] [] = some (r1_RightTokenE r, []) := tO_spec (enc := fun r => (r1_RightTokenE r, [])) h
def seinekeep_TokensStayE : Bool → PV := fun r => PV.bool r
theorem seinekeep_TokensStayEj (a b : Bool) (h : seinekeep_TokensStayE a = seinekeep_TokensStayE b) : a = b := Ev.bool_inj a b h
noncomputable def seinekeep_TokensStay (c : List GToken) (cb : List GToken) (l0 : List GToken) : Option Bool := tO O 26 [(.slice (List.map encToken c) (List.map encToken cb) false), (.slice (List.map encToken l0) [] false)] [] fun r => (seinekeep_TokensStayE r, [])
theorem seinekeep_TokensStay_spec {c : List GToken} {cb : List GToken} {l0 : List GToken} {r : Bool} (h : seinekeep_TokensStay c cb l0 = some r) : O 26 [(.slice (List.map encToken c) (List.map encToken cb) false), (.slice (List.map encToken l0) [] false)] [] = some (seinekeep_TokensStayE r, []) := tO_spec (enc := fun r => (seinekeep_TokensStayE r, [])) h
def to_NumberE : Int → PV := fun r => (PV.int .i64) r
theorem to_NumberEj (a b : Int) (h : to_NumberE a = to_NumberE b) : a = b := (Ev.int_inj _) a b h
noncomputable def to_Number (s : Str) : Option Int := tO O 15 [(.str s)] [] fun r => (to_NumberE r, [])
theorem to_Number_spec {s : Str} {r : Int} (h : to_Number s = some r) : O 15 [(.str s)] [] = some (to_NumberE r, []) := tO_spec (enc := fun r => (to_NumberE r, [])) h
def to_quoteE : Str → PV := fun r => PV.str r
theorem to_quoteEj (a b : Str) (h : to_quoteE a = to_quoteE b) : a = b := Ev.str_inj a b h
noncomputable def to_quote (s : Str) : Option Str := tO O 41 [(.str s)] [] fun r => (to_quoteE r, [])
theorem to_quote_spec {s : Str} {r : Str} (h : to_quote s = some r) : O 41 [(.str s)] [] = some (to_quoteE r, []) := tO_spec (enc := fun r => (to_quoteE r, [])) h
def st_JoinE : Str → PV := fun r => PV.str r
theorem st_JoinEj (a b : Str) (h : st_JoinE a = st_JoinE b) : a = b := Ev.str_inj a b h
noncomputable def st_Join (elems : List Str) (sep : Str) : Option Str := tO O 40 [(.slice (List.map PV.str elems) [] false), (.str sep)] [] fun r => (st_JoinE r, [])
theorem st_Join_spec {elems : List Str} {sep : Str} {r : Str} (h : st_Join elems sep = some r) : O 40 [(.slice (List.map PV.str elems) [] false), (.str sep)] [] = some (st_JoinE r, []) := tO_spec (enc := fun r => (st_JoinE r, [])) h
def r1_QuoteE : Str → PV := fun r => PV.str r
theorem r1_QuoteEj (a b : Str) (h : r1_QuoteE a = r1_QuoteE b) : a = b := Ev.str_inj a b h
noncomputable def r1_Quote (s : Str) : Option Str := tO O 42 [(.str s)] [] fun r => (r1_QuoteE r, [])
theorem r1_Quote_spec {s : Str} {r : Str} (h : r1_Quote s = some r) : O 42 [(.str s)] [] = some (r1_QuoteE r, []) := tO_spec (enc := fun r => (r1_QuoteE r, [])) h
def st_ContainsE : Bool → PV := fun r => PV.bool r
theorem st_ContainsEj (a b : Bool) (h : st_ContainsE a = st_ContainsE b) : a = b := Ev.bool_inj a b h
noncomputable def st_Contains (s : Str) (substr : Str) : Option Bool := tO O 43 [(.str s), (.str substr)] [] fun r => (st_ContainsE r, [])
theorem st_Contains_spec {s : Str} {substr : Str} {r : Bool} (h : st_Contains s substr = some r) : O 43 [(.str s), (.str substr)] [] = some (st_ContainsE r, []) := tO_spec (enc := fun r => (st_ContainsE r, [])) h
def ls_NameE : Bool → PV := fun r => PV.bool r
theorem ls_NameEj (a b : Bool) (h : ls_NameE a = ls_NameE b) : a = b := Ev.bool_inj a b h
noncomputable def ls_Name (s : Str) : Option Bool := tO O 44 [(.str s)] [] fun r => (ls_NameE r, [])
theorem ls_Name_spec {s : Str} {r : Bool} (h : ls_Name s = some r) : O 44 [(.str s)] [] = some (ls_NameE r, []) := tO_spec (enc := fun r => (ls_NameE r, [])) h
def ls_GoodE : Bool → PV := fun r => PV.bool r
theorem ls_GoodEj (a b : Bool) (h : ls_GoodE a = ls_GoodE b) : a = b := Ev.bool_inj a b h
noncomputable def ls_Good (s : Str) : Option Bool := tO O 45 [(.str s)] [] fun r => (ls_GoodE r, [])
theorem ls_Good_spec {s : Str} {r : Bool} (h : ls_Good s = some r) : O 45 [(.str s)] [] = some (ls_GoodE r, []) := tO_spec (enc := fun r => (ls_GoodE r, [])) h
def r1_indexE : Int → PV := fun r => (PV.int .i64) r
theorem r1_indexEj (a b : Int) (h : r1_indexE a = r1_indexE b) : a = b := (Ev.int_inj _) a b h
noncomputable def r1_index (s : Str) (c : Int) : Option Int := tO O 46 [(.str s), (.int .u8 c)] [] fun r => (r1_indexE r, [])
theorem r1_index_spec {s : Str} {c : Int} {r : Int} (h : r1_index s c = some r) : O 46 [(.str s), (.int .u8 c)] [] = some (r1_indexE r, []) := tO_spec (enc := fun r => (r1_indexE r, [])) h
def r1_NameE : Bool → PV := fun r => PV.bool r
theorem r1_NameEj (a b : Bool) (h : r1_NameE a = r1_NameE b) : a = b := Ev.bool_inj a b h
noncomputable def r1_Name (s : Str) : Option Bool := tO O 47 [(.str s)] [] fun r => (r1_NameE r, [])
theorem r1_Name_spec {s : Str} {r : Bool} (h : r1_Name s = some r) : O 47 [(.str s)] [] = some (r1_NameE r, []) := tO_spec (enc := fun r => (r1_NameE r, [])) h
def r1_NumberE : Int → PV := fun r => (PV.int .i64) r
theorem r1_NumberEj (a b : Int) (h : r1_NumberE a = r1_NumberE b) : a = b := (Ev.int_inj _) a b h
noncomputable def r1_Number (s : Str) : Option Int := tO O 16 [(.str s)] [] fun r => (r1_NumberE r, [])
theorem r1_Number_spec {s : Str} {r : Int} (h : r1_Number s = some r) : O 16 [(.str s)] [] = some (r1_NumberE r, []) := tO_spec (enc := fun r => (r1_NumberE r, [])) h
def r1_GoodE : Bool → PV := fun r => PV.bool r
theorem r1_GoodEj (a b : Bool) (h : r1_GoodE a = r1_GoodE b) : a = b := Ev.bool_inj a b h
noncomputable def r1_Good (s : Str) : Option Bool := tO O 48 [(.str s)] [] fun r => (r1_GoodE r, [])
theorem r1_Good_spec {s : Str} {r : Bool} (h : r1_Good s = some r) : O 48 [(.str s)] [] = some (r1_GoodE r, []) := tO_spec (enc := fun r => (r1_GoodE r, [])) h
def to_numberE : (Int × Int) → PV := fun r => .tuple [(PV.int .i64) r.1, (PV.int .i64) r.2]
theorem to_numberEj (a b : Int × Int) (h : to_numberE a = to_numberE b) : a = b := by
 simp only [to_numberE, PV.tuple.injEq, List.cons.injEq, and_true] at h
 exact Prod.ext ((Ev.int_inj _) _ _ h.1) ((Ev.int_inj _) _ _ h.2)
noncomputable def to_number (s : Str) : Option (Int × Int) := tO O 32 [(.str s)] [] fun r => (to_numberE r, [])
theorem to_number_spec {s : Str} {r : Int × Int} (h : to_number s = some r) : O 32 [(.str s)] [] = some (to_numberE r, []) := tO_spec (enc := fun r => (to_numberE r, [])) h
def ls_CodeE : (Int × Int) → PV := fun r => .tuple [(PV.int .i64) r.1, (PV.int .i64) r.2]
theorem ls_CodeEj (a b : Int × Int) (h : ls_CodeE a = ls_CodeE b) : a = b := by
 simp only [ls_CodeE, PV.tuple.injEq, List.cons.injEq, and_true] at h
 exact Prod.ext ((Ev.int_inj _) _ _ h.1) ((Ev.int_inj _) _ _ h.2)
noncomputable def ls_Code (s : Str) (i : Int) : Option (Int × Int) := tO O 35 [(.str s), (.int .i64 i)] [] fun r => (ls_CodeE r, [])
theorem ls_Code_spec {s : Str} {i : Int} {r : Int × Int} (h : ls_Code s i = some r) : O 35 [(.str s), (.int .i64 i)] [] = some (ls_CodeE r, []) := tO_spec (enc := fun r => (ls_CodeE r, [])) h
def ls_UnitsE : ((List Int) × Bool) → PV := fun r => .tuple [(encSl (PV.int .i64)) r.1, PV.bool r.2]
theorem ls_UnitsEj (a b : (List Int) × Bool) (h : ls_UnitsE a = ls_UnitsE b) : a = b := by
 simp only [ls_UnitsE, PV.tuple.injEq, List.cons.injEq, and_true] at h
 exact Prod.ext ((Ev.encSl_inj (Ev.int_inj _)) _ _ h.1) (Ev.bool_inj _ _ h.2)
noncomputable def ls_Units (s : Str) : Option ((List Int) × Bool) := tO O 74 [(.str s)] [] fun r => (ls_UnitsE r, [])
theorem ls_Units_spec {s : Str} {r : (List Int) × Bool} (h : ls_Units s = some r) : O 74 [(.str s)] [] = some (ls_UnitsE r, []) := tO_spec (enc := fun r => (ls_UnitsE r, [])) h
def to_unitE : (List Int) → PV := fun r => .slice (List.map (PV.int .u8) r) [] true
theorem to_unitEj (a b : List Int) (h : to_unitE a = to_unitE b) : a = b := Ev.encSlO_inj (Ev.int_inj _) a b h
noncomputable def to_unit (b : List Int) (u0 : Int) : Option (List Int) := tO O 75 [(.slice (List.map (PV.int .u8) b) [] true), (.int .i64 u0)] [] fun r => (to_unitE r, [])
theorem to_unit_spec {b : List Int} {u0 : Int} {r : List Int} (h : to_unit b u0 = some r) : O 75 [(.slice (List.map (PV.int .u8) b) [] true), (.int .i64 u0)] [] = some (to_unitE r, []) := tO_spec (enc := fun r => (to_unitE r, [])) h
def r1_CodesE : ((List Int) × Bool) → PV := fun r => .tuple [(encSl (PV.int .i64)) r.1, PV.bool r.2]
theorem r1_CodesEj (a b : (List Int) × Bool) (h : r1_CodesE a = r1_CodesE b) : a = b := by
 simp only [r1_CodesE, PV.tuple.injEq, List.cons.injEq, and_true] at h
 exact Prod.ext ((Ev.encSl_inj (Ev.int_inj _)) _ _ h.1) (Ev.bool_inj _ _ h.2)
noncomputable def r1_Codes (s : Str) : Option ((List Int) × Bool) := tO O 58 [(.str s)] [] fun r => (r1_CodesE r, [])
theorem r1_Codes_spec {s : Str} {r : (List Int) × Bool} (h : r1_Codes s = some r) : O 58 [(.str s)] [] = some (r1_CodesE r, []) := tO_spec (enc := fun r => (r1_CodesE r, [])) h
def r1_unitE : Str → PV := fun r => PV.str r
theorem r1_unitEj (a b : Str) (h : r1_unitE a = r1_unitE b) : a = b := Ev.str_inj a b h
noncomputable def r1_unit (v0 : Int) : Option Str := tO O 76 [(.int .i64 v0)] [] fun r => (r1_unitE r, [])
theorem r1_unit_spec {v0 : Int} {r : Str} (h : r1_unit v0 = some r) : O 76 [(.int .i64 v0)] [] = some (r1_unitE r, []) := tO_spec (enc := fun r => (r1_unitE r, [])) h
def r1_PutE : Str → PV := fun r => PV.str r
theorem r1_PutEj (a b : Str) (h : r1_PutE a = r1_PutE b) : a = b := Ev.str_inj a b h
noncomputable def r1_Put (c : Int) : Option Str := tO O 77 [(.int .i64 c)] [] fun r => (r1_PutE r, [])
theorem r1_Put_spec {c : Int} {r : Str} (h : r1_Put c = some r) : O 77 [(.int .i64 c)] [] = some (r1_PutE r, []) := tO_spec (enc := fun r => (r1_PutE r, [])) h
def ls_LetterE : Bool → PV := fun r => PV.bool r
theorem ls_LetterEj (a b : Bool) (h : ls_LetterE a = ls_LetterE b) : a = b := Ev.bool_inj a b h
noncomputable def ls_Letter (c : Int) : Option Bool := tO O 55 [(.int .u8 c)] [] fun r => (ls_LetterE r, [])
theorem ls_Letter_spec {c : Int} {r : Bool} (h : ls_Letter c = some r) : O 55 [(.int .u8 c)] [] = some (ls_LetterE r, []) := tO_spec (enc := fun r => (ls_LetterE r, [])) h
def ls_DigitE : Bool → PV := fun r => PV.bool r
theorem ls_DigitEj (a b : Bool) (h : ls_DigitE a = ls_DigitE b) : a = b := Ev.bool_inj a b h
noncomputable def ls_Digit (c : Int) : Option Bool := tO O 57 [(.int .u8 c)] [] fun r => (ls_DigitE r, [])
theorem ls_Digit_spec {c : Int} {r : Bool} (h : ls_Digit c = some r) : O 57 [(.int .u8 c)] [] = some (ls_DigitE r, []) := tO_spec (enc := fun r => (ls_DigitE r, [])) h
def uf_ValidStringE : Bool → PV := fun r => PV.bool r
theorem uf_ValidStringEj (a b : Bool) (h : uf_ValidStringE a = uf_ValidStringE b) : a = b := Ev.bool_inj a b h
noncomputable def uf_ValidString (s : Str) : Option Bool := tO O 79 [(.str s)] [] fun r => (uf_ValidStringE r, [])
theorem uf_ValidString_spec {s : Str} {r : Bool} (h : uf_ValidString s = some r) : O 79 [(.str s)] [] = some (uf_ValidStringE r, []) := tO_spec (enc := fun r => (uf_ValidStringE r, [])) h
def r1_startE : Bool → PV := fun r => PV.bool r
theorem r1_startEj (a b : Bool) (h : r1_startE a = r1_startE b) : a = b := Ev.bool_inj a b h
noncomputable def r1_start (c : Int) : Option Bool := tO O 62 [(.int .u8 c)] [] fun r => (r1_startE r, [])
theorem r1_start_spec {c : Int} {r : Bool} (h : r1_start c = some r) : O 62 [(.int .u8 c)] [] = some (r1_startE r, []) := tO_spec (enc := fun r => (r1_startE r, [])) h
def r1_digitE : Bool → PV := fun r => PV.bool r
theorem r1_digitEj (a b : Bool) (h : r1_digitE a = r1_digitE b) : a = b := Ev.bool_inj a b h
noncomputable def r1_digit (c : Int) : Option Bool := tO O 63 [(.int .u8 c)] [] fun r => (r1_digitE r, [])
theorem r1_digit_spec {c : Int} {r : Bool} (h : r1_digit c = some r) : O 63 [(.int .u8 c)] [] = some (r1_digitE r, []) := tO_spec (enc := fun r => (r1_digitE r, [])) h
def r1_numeralE : (Int × Int) → PV := fun r => .tuple [(PV.int .i64) r.1, (PV.int .i64) r.2]
theorem r1_numeralEj (a b : Int × Int) (h : r1_numeralE a = r1_numeralE b) : a = b := by
 simp only [r1_numeralE, PV.tuple.injEq, List.cons.injEq, and_true] at h
 exact Prod.ext ((Ev.int_inj _) _ _ h.1) ((Ev.int_inj _) _ _ h.2)
noncomputable def r1_numeral (s : Str) : Option (Int × Int) := tO O 33 [(.str s)] [] fun r => (r1_numeralE r, [])
theorem r1_numeral_spec {s : Str} {r : Int × Int} (h : r1_numeral s = some r) : O 33 [(.str s)] [] = some (r1_numeralE r, []) := tO_spec (enc := fun r => (r1_numeralE r, [])) h
def st_HasPrefixE : Bool → PV := fun r => PV.bool r
theorem st_HasPrefixEj (a b : Bool) (h : st_HasPrefixE a = st_HasPrefixE b) : a = b := Ev.bool_inj a b h
noncomputable def st_HasPrefix (s : Str) (prefix0 : Str) : Option Bool := tO O 49 [(.str s), (.str prefix0)] [] fun r => (st_HasPrefixE r, [])
theorem st_HasPrefix_spec {s : Str} {prefix0 : Str} {r : Bool} (h : st_HasPrefix s prefix0 = some r) : O 49 [(.str s), (.str prefix0)] [] = some (st_HasPrefixE r, []) := tO_spec (enc := fun r => (st_HasPrefixE r, [])) h
def to_wholeE : Int → PV := fun r => (PV.int .i64) r
theorem to_wholeEj (a b : Int) (h : to_wholeE a = to_wholeE b) : a = b := (Ev.int_inj _) a b h
noncomputable def to_whole (s : Str) : Option Int := tO O 64 [(.str s)] [] fun r => (to_wholeE r, [])
theorem to_whole_spec {s : Str} {r : Int} (h : to_whole s = some r) : O 64 [(.str s)] [] = some (to_wholeE r, []) := tO_spec (enc := fun r => (to_wholeE r, [])) h
def to_digitsE : Int → PV := fun r => (PV.int .i64) r
theorem to_digitsEj (a b : Int) (h : to_digitsE a = to_digitsE b) : a = b := (Ev.int_inj _) a b h
noncomputable def to_digits (s : Str) : Option Int := tO O 65 [(.str s)] [] fun r => (to_digitsE r, [])
theorem to_digits_spec {s : Str} {r : Int} (h : to_digits s = some r) : O 65 [(.str s)] [] = some (to_digitsE r, []) := tO_spec (enc := fun r => (to_digitsE r, [])) h
def to_powerE : Int → PV := fun r => (PV.int .i64) r
theorem to_powerEj (a b : Int) (h : to_powerE a = to_powerE b) : a = b := (Ev.int_inj _) a b h
noncomputable def to_power (s : Str) : Option Int := tO O 66 [(.str s)] [] fun r => (to_powerE r, [])
theorem to_power_spec {s : Str} {r : Int} (h : to_power s = some r) : O 66 [(.str s)] [] = some (to_powerE r, []) := tO_spec (enc := fun r => (to_powerE r, [])) h
def uf_DecodeRuneInStringE : (Int × Int) → PV := fun r => .tuple [(PV.int .i32) r.1, (PV.int .i64) r.2]
theorem uf_DecodeRuneInStringEj (a b : Int × Int) (h : uf_DecodeRuneInStringE a = uf_DecodeRuneInStringE b) : a = b := by
 simp only [uf_DecodeRuneInStringE, PV.tuple.injEq, List.cons.injEq, and_true] at h
 exact Prod.ext ((Ev.int_inj _) _ _ h.1) ((Ev.int_inj _) _ _ h.2)
noncomputable def uf_DecodeRuneInString (s : Str) : Option (Int × Int) := tO O 69 [(.str s)] [] fun r => (uf_DecodeRuneInStringE r, [])
theorem uf_DecodeRuneInString_spec {s : Str} {r : Int × Int} (h : uf_DecodeRuneInString s = some r) : O 69 [(.str s)] [] = some (uf_DecodeRuneInStringE r, []) := tO_spec (enc := fun r => (uf_DecodeRuneInStringE r, [])) h
def r1_CodeE : (Int × Int) → PV := fun r => .tuple [(PV.int .i64) r.1, (PV.int .i64) r.2]
theorem r1_CodeEj (a b : Int × Int) (h : r1_CodeE a = r1_CodeE b) : a = b := by
 simp only [r1_CodeE, PV.tuple.injEq, List.cons.injEq, and_true] at h
 exact Prod.ext ((Ev.int_inj _) _ _ h.1) ((Ev.int_inj _) _ _ h.2)
noncomputable def r1_Code (s : Str) (i : Int) : Option (Int × Int) := tO O 88 [(.str s), (.int .i64 i)] [] fun r => (r1_CodeE r, [])
theorem r1_Code_spec {s : Str} {i : Int} {r : Int × Int} (h : r1_Code s i = some r) : O 88 [(.str s), (.int .i64 i)] [] = some (r1_CodeE r, []) := tO_spec (enc := fun r => (r1_CodeE r, [])) h
def r1_runE : Int → PV := fun r => (PV.int .i64) r
theorem r1_runEj (a b : Int) (h : r1_runE a = r1_runE b) : a = b := (Ev.int_inj _) a b h
noncomputable def r1_run (s : Str) (i : Int) : Option Int := tO O 67 [(.str s), (.int .i64 i)] [] fun r => (r1_runE r, [])
theorem r1_run_spec {s : Str} {i : Int} {r : Int} (h : r1_run s i = some r) : O 67 [(.str s), (.int .i64 i)] [] = some (r1_runE r, []) := tO_spec (enc := fun r => (r1_runE r, [])) h
def stringslite_HasPrefixE : Bool → PV := fun r => PV.bool r
theorem stringslite_HasPrefixEj (a b : Bool) (h : stringslite_HasPrefixE a = stringslite_HasPrefixE b) : a = b := Ev.bool_inj a b h
noncomputable def stringslite_HasPrefix (s : Str) (prefix0 : Str) : Option Bool := tO O 80 [(.str s), (.str prefix0)] [] fun r => (stringslite_HasPrefixE r, [])
theorem stringslite_HasPrefix_spec {s : Str} {prefix0 : Str} {r : Bool} (h : stringslite_HasPrefix s prefix0 = some r) : O 80 [(.str s), (.str prefix0)] [] = some (stringslite_HasPrefixE r, []) := tO_spec (enc := fun r => (stringslite_HasPrefixE r, [])) h
def bkToken (x : GToken) : Nat := (bk1 x.kind + (bkStr x.s + (0))) + 1
def gdToken (x : GToken) : Prop := (gdI .i64) x.kind ∧ (gd1 x.s ∧ (True))
theorem bkToken_eq (x : GToken) : bkToken x = (bk1 x.kind + (bkStr x.s + (0))) + 1 := rfl
theorem gdToken_eq (x : GToken) : gdToken x = ((gdI .i64) x.kind ∧ (gd1 x.s ∧ (True))) := rfl
def bkTokenSaid (x : GTokenSaid) : Nat := ((bkSl bk1) x.b + ((bkSl bk1) x.units + (bk1 x.ok + (0)))) + 1
def gdTokenSaid (x : GTokenSaid) : Prop := (gdSl (gdI .u8)) x.b ∧ ((gdSl (gdI .i64)) x.units ∧ (gd1 x.ok ∧ (True)))
theorem bkTokenSaid_eq (x : GTokenSaid) : bkTokenSaid x = ((bkSl bk1) x.b + ((bkSl bk1) x.units + (bk1 x.ok + (0)))) + 1 := rfl
theorem gdTokenSaid_eq (x : GTokenSaid) : gdTokenSaid x = ((gdSl (gdI .u8)) x.b ∧ ((gdSl (gdI .i64)) x.units ∧ (gd1 x.ok ∧ (True)))) := rfl
def TS : Nat → TypeId
 | 0 => 31
 | _ => 94
def BS : Nat → Ty
 | 0 => (.fcons (.int .i64) (.fcons .str .fnil))
 | _ => (.fcons (.sl (.int .u8)) (.fcons (.sl (.int .i64)) (.fcons .bool .fnil)))
abbrev recToken : RecTy := ⟨GToken, encToken, 2, bkToken, gdToken, fun x => wf_agg _ (encToken_eq x) rfl rfl⟩
abbrev recTokenSaid : RecTy := ⟨GTokenSaid, encTokenSaid, 3, bkTokenSaid, gdTokenSaid, fun x => wf_agg _ (encTokenSaid_eq x) rfl rfl⟩
abbrev RS : REnv
 | 0 => recToken
 | _ => recTokenSaid
theorem hty : ∀ i, ∃ F, Tryd.prog.underlying (TS i) = some (.struct F) ∧ Tryd.prog.cellsOf (TS i) = (BS i).size RS ∧ flds RS Tryd.prog (tyOk RS TS Tryd.prog 9) F.toList 0 (BS i) = true
 | 0 => ⟨_, Tryd.underlying31, by kernel_rfl, by kernel_rfl⟩
 | _ + 1 => ⟨_, Tryd.underlying94, by kernel_rfl, by kernel_rfl⟩
theorem cvToken (x0 : Int) (x1 : Str) : encToken ⟨x0, x1⟩ = (PV.agg (((PV.int .i64) x0).cells ++ (PV.agg ((PV.str x1).cells ++ (PV.agg []).cells)).cells)) := by
 simp only [tys, cells, List.cons_append, List.nil_append]
theorem cvTokenSaid (x0 : List Int) (x1 : List Int) (x2 : Bool) : encTokenSaid ⟨x0, x1, x2⟩ = (PV.agg ((PV.slice (List.map (PV.int .u8) x0) [] false).cells ++ (PV.agg ((PV.slice (List.map (PV.int .i64) x1) [] false).cells ++ (PV.agg ((PV.bool x2).cells ++ (PV.agg []).cells)).cells)).cells)) := by
 simp only [tys, cells, List.cons_append, List.nil_append]
theorem hcv : ∀ i (x : (BS i).den RS), ∃ y : (RS i).D, (RS i).en y = enc RS (BS i) x ∧ (RS i).bk y ≤ bulk RS (BS i) x + 1 ∧ (good RS (BS i) x → (RS i).gd y)
 | 0, ⟨x0, x1, _⟩ => ⟨(⟨x0, x1⟩ : GToken), (cvToken x0 x1).trans rfl, Nat.le_of_eq ((bkToken_eq _).trans rfl), fun h => (gdToken_eq _).mpr h⟩
 | _ + 1, ⟨x0, x1, x2, _⟩ => ⟨(⟨x0, x1, x2⟩ : GTokenSaid), (cvTokenSaid x0 x1 x2).trans rfl, Nat.le_of_eq ((bkTokenSaid_eq _).trans rfl), fun h => (gdTokenSaid_eq _).mpr h⟩
theorem rok {H : Type} (e : TypeId × Value → H) (W : World) {bl : DataW H → Nat} {bla : List (DataW H) → Nat} (hb : BlOk bl bla) : ROk RS TS e Tryd.prog W bl where
 op := open_ext hb 9 BS hty hcv
 ag := fun i => match i with
  | 0 => fun x => ⟨_, encToken_eq x⟩
  | _ + 1 => fun x => ⟨_, encTokenSaid_eq x⟩
 st := fun i => (hty i).imp fun F h => h.1
end Go.Proofs.YtafndpggajdmiaaDoor
