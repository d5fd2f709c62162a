import Derived.Test.YtfbaogfcpldlnaaGc
import Derived.Test.YtfbaogfcpldlnaaGa
set_option linter.unusedVariables false
set_option linter.unusedSimpArgs false
set_option linter.unusedSimpArgs false
open Go Go.Ev
namespace Go.Proofs.Ytfbaogfcpldlnaa
theorem members_keep (m : List GMember) (hm : m.length < 1073741824) (h : ∀ x ∈ m, seinekeep_Value x.v = some x.v) : seinekeep_Members m = some m := by
 apply seinekeep_Members_run
 unfold seinekeep_Members_B
 rw [loop_copy (b := seinekeep_Members_l1T m) m (fun k a => (a, (k : Int))) hm (by intro a; simp [seinekeep_Members_l1T]) (by
  intro k x a hx h1 h2 h3 h4
  simp only [seinekeep_Members_l1T, h1, cnd_t, h2, bnd_s, h3, h4, h x hx]
  cases x; rfl) (s := ([], 0)) rfl]
 rfl
theorem seinekeep_Value_ok' : ∀ (n : Nat), n < 1073741824 → ∀ v : GValue, szV v ≤ n → seinekeep_Value v = some v := by
 intro n
 induction n with
 | zero => intro _ v h; have := szV_eq v; omega
 | succ n ih =>
  intro hn v h
  have hv := szV_eq v
  have hl := szVs_len v.l
  have hm := szMs_len v.m
  apply seinekeep_Value_run
  unfold seinekeep_Value_B
  rw [loop_copy (b := seinekeep_Value_l1T v) v.l (fun k a => (a, (k : Int))) (by omega) (by intro a; simp [seinekeep_Value_l1T]) (by
   intro k x a hx h1 h2 h3 h4
   simp only [seinekeep_Value_l1T, h1, cnd_t, h2, bnd_s, h3, h4, ih (by omega) x (by have := szVs_mem hx; omega)]) (s := ([], 0)) rfl]
  simp only [bnd_s, members_keep v.m (by omega) fun x hx => ih (by omega) x.v (by have := szMs_mem hx; have := szM_eq x; omega)]
  cases v; rfl
theorem seinekeep_Value_ok (v : GValue) (h : szV v < 1073741824) : seinekeep_Value v = some v := seinekeep_Value_ok' _ h v (Nat.le_refl _)
theorem szV_mem_bk {m : List GMember} (h : bkSl bkMember m < 1073741824) {x : GMember} (hx : x ∈ m) : szV x.v < 1073741824 := by
 have h1 := sl_mem (f := bkMember) hx
 have h2 := szM_bk x
 have h3 := szM_eq x
 omega
theorem seinekeep_Dirs_ok (l : List GDir) (h : bkSl bkDir l < 1073741824) : seinekeep_Dirs l = some l := by
 apply seinekeep_Dirs_run
 unfold seinekeep_Dirs_B
 have hl := sl_len bkDir_pos l
 rw [loop_copy (b := seinekeep_Dirs_l1T l) l (fun k a => (a, (k : Int))) (by omega) (by intro a; simp [seinekeep_Dirs_l1T]) (by
  intro k x a hx h1 h2 h3 h4
  have hb := sl_mem (f := bkDir) hx
  rw [bkDir_eq] at hb
  have hm := sl_len bkMember_pos x.args
  simp only [seinekeep_Dirs_l1T, h1, cnd_t, h2, bnd_s, h3, h4, members_keep x.args (by omega) fun y hy => seinekeep_Value_ok y.v (szV_mem_bk (by omega) hy)]) (s := ([], 0)) rfl]
 rfl
theorem seineref6_SameDirs_self (l : List GDir) (h : bkSl bkDir l < 1073741824) : seineref6_SameDirs l l = some true := by
 apply seineref6_SameDirs_run
 unfold seineref6_SameDirs_B
 have hl := sl_len bkDir_pos l
 rw [loop_all (b := seineref6_SameDirs_l1T l l) l (.inl ()) (by show l.length < _; omega) (by simp [seineref6_SameDirs_l1T]) (by
  intro k x hx h1 h2 h3
  have hb := sl_mem (f := bkDir) hx
  rw [bkDir_eq] at hb
  have hm := sl_len bkMember_pos x.args
  simp only [seineref6_SameDirs_l1T, h1, cnd_t, h2, bnd_s, h3, beq_self_eq_true, Bool.not_true, cnd_f, members_of x.args (by omega) fun y hy => seineref1_Same_self y.v (szV_mem_bk (by omega) hy)])]
 simp
theorem lightTexts_ex (l : List Str) (h : l.length < 1073741824) : ∃ n, seinelaw8_lightTexts l = some n := by
 obtain ⟨r, hr⟩ := loop_ex (b := seinelaw8_lightTexts_l1T l) l (fun k (a : Int) => (a, (k : Int))) (by show l.length < _; omega) (fun a => ⟨a, by simp [seinelaw8_lightTexts_l1T]⟩) (by
  intro k x a hx h1 h2 h3
  right; simp only [seinelaw8_lightTexts_l1T, h1, cnd_t, h2, bnd_s, h3]; exact ⟨_, rfl⟩) (s := (0, 0)) (a := 0) rfl
 exact ⟨r, seinelaw8_lightTexts_run (by simp only [seinelaw8_lightTexts_B, hr, bnd_s])⟩
theorem lightParams_ex (l : List GParam) (h : bkSl bkParam l < 1073741824) : ∃ n, seinelaw8_lightParams l = some n := by
 have hl := sl_len bkParam_pos l
 obtain ⟨r, hr⟩ := loop_ex (b := seinelaw8_lightParams_l1T l) l (fun k (a : Int) => (a, (k : Int))) (by show l.length < _; omega) (fun a => ⟨a, by simp [seinelaw8_lightParams_l1T]⟩) (by
  intro k x a hx h1 h2 h3
  have hb := sl_mem (f := bkParam) hx
  rw [bkParam_eq] at hb
  have hv := szV_bk x.default
  right; simp only [seinelaw8_lightParams_l1T, h1, cnd_t, h2, bnd_s, h3, seinekeep_Size_ok x.default (by omega)]; exact ⟨_, rfl⟩) (s := (0, 0)) (a := 0) rfl
 exact ⟨r, seinelaw8_lightParams_run (by simp only [seinelaw8_lightParams_B, hr, bnd_s])⟩
theorem lightDirs_ex (l : List GDir) (h : bkSl bkDir l < 1073741824) : ∃ n, seinelaw8_lightDirs l = some n := by
 have hl := sl_len bkDir_pos l
 obtain ⟨r, hr⟩ := loop_ex (b := seinelaw8_lightDirs_l1T l) l (fun k (a : Int) => (a, (k : Int))) (by show l.length < _; omega) (fun a => ⟨a, by simp [seinelaw8_lightDirs_l1T]⟩) (by
  intro k x a hx h1 h2 h3
  have hb := sl_mem (f := bkDir) hx
  rw [bkDir_eq] at hb
  have hv : szV ⟨0, 0, [], [], x.args⟩ < 4611686018427387904 := by
   have h4 := szMs_bk x.args
   rw [bkMembers_eq] at h4
   simp only [szV, szVs, List.length_nil]
   have h5 : bkSl bkMember x.args = sumL bkMember x.args + 1 := rfl
   omega
  right; simp only [seinelaw8_lightDirs_l1T, h1, cnd_t, h2, bnd_s, h3, seinekeep_Size_ok _ hv]; exact ⟨_, rfl⟩) (s := (0, 0)) (a := 0) rfl
 exact ⟨r, seinelaw8_lightDirs_run (by simp only [seinelaw8_lightDirs_B, hr, bnd_s])⟩
theorem seinelaw8_Light_ex (s : GSchema) (h : SOk s) : ∃ b, seinelaw8_Light s = some b := by
 obtain ⟨r, hr⟩ := loop_ex (b := seinelaw8_Light_l2T s) s.defs (fun k (a : Int) => (a, (k : Int))) h.sm (fun a => ⟨a, by simp [seinelaw8_Light_l2T]⟩) (by
  intro k d a hd h1 h2 h3
  have hb := h.def_bk hd
  rw [bkDef_eq] at hb
  obtain ⟨n1, e1⟩ := lightTexts_ex d.faces (h.faces d hd)
  obtain ⟨n2, e2⟩ := lightTexts_ex d.parts (h.parts d hd)
  obtain ⟨n3, e3⟩ := lightParams_ex d.params (by omega)
  have hin : ∀ n0 : Int, ∃ n, tloop (seinelaw8_Light_l1T d) (n0, 0) = some n := by
   intro n0
   refine loop_ex (b := seinelaw8_Light_l1T d) d.fields (fun k (a : Int) => (a, (k : Int))) (by have := h.fields d hd; show d.fields.length < _; omega) (fun a => ⟨a, by simp [seinelaw8_Light_l1T]⟩) (by
    intro k f a hf h1 h2 h3
    have hfb := sl_mem (f := bkFieldDef) hf
    rw [bkFieldDef_eq] at hfb
    obtain ⟨m1, g1⟩ := lightParams_ex f.params (by omega)
    obtain ⟨m2, g2⟩ := lightDirs_ex f.dirs (by omega)
    right; simp only [seinelaw8_Light_l1T, h1, cnd_t, h2, bnd_s, h3, g1, g2]; exact ⟨_, rfl⟩) (a := n0) rfl
  right
  simp only [seinelaw8_Light_l2T, h1, cnd_t, h2, bnd_s, h3, e1, e2, e3]
  obtain ⟨n, hn⟩ := hin (IntKind.wrap .i64 ((IntKind.wrap .i64 ((IntKind.wrap .i64 ((IntKind.wrap .i64 ((IntKind.wrap .i64 (a + 1)) + (List.length d.name : Int))) + n1)) + n2)) + n3))
  rw [hn]
  exact ⟨n, rfl⟩) (s := (0, 0)) (a := 0) rfl
 exact ⟨decide (r ≤ 4000), seinelaw8_Light_run (by simp only [seinelaw8_Light_B, hr, bnd_s])⟩
open Go Go.Ev
mutual
def namesS1 : GSel → List Str
 | ⟨k, _, n, _, _, _, l⟩ => (bif k == 1 then [n] else []) ++ namesS l
def namesS : List GSel → List Str
 | [] => []
 | x :: l => namesS1 x ++ namesS l
end
mutual
theorem namesS1_bk : ∀ x : GSel, (namesS1 x).length ≤ bkSel x
 | ⟨k, a, n, ar, di, o, l⟩ => by
  have h := namesS_bk l
  simp only [namesS1, bkSel, List.length_append]
  cases k == 1 <;> simp only [cond_true, cond_false, List.length_singleton, List.length_nil, bk1] <;> omega
theorem namesS_bk : ∀ l : List GSel, (namesS l).length ≤ bkSels l
 | [] => by simp [namesS]
 | x :: l => by have := namesS1_bk x; have := namesS_bk l; simp only [namesS, bkSels, List.length_append]; omega
end
theorem bkSels_mem {x : GSel} {l : List GSel} (h : x ∈ l) : bkSel x ≤ bkSels l := by rw [bkSels_eq]; exact sumL_mem bkSel h
theorem bkSel_sels (x : GSel) : bkSels x.sels + 1 ≤ bkSel x := by rw [bkSel_eq, bkSels_eq]; simp only [bkSl]; omega
theorem bkSel_pos (x : GSel) : 1 ≤ bkSel x := by rw [bkSel_eq]; omega
theorem bkSels_len (l : List GSel) : l.length ≤ bkSels l := by rw [bkSels_eq]; exact sumL_len bkSel bkSel_pos l
abbrev zFrag : GFrag := ⟨[], [], [], []⟩
theorem IndexFrag_ok (l : List GFrag) (a b name : Str) (d : GDoc) (hl : Sm l) :
  ∃ i, slices_IndexFunc_Frag l a b name d = some i ∧ (match l.find? (fun f => f.name == name) with | some f => decide (i < 0) = false ∧ nthI l i = some f | none => decide (i < 0) = true) := by
 have hc : ∀ f, graph_Frag_1 f a b name d = some (f.name == name) := fun f => graph_Frag_1_run rfl
 have key := loop_list (b := slices_IndexFunc_Frag_l1T l a b name d) l (fun k (_ : Nat) => (k : Int)) (fun r k => match r.findIdx? (fun f => f.name == name) with | some j => Sum.inr ((k + j : Nat) : Int) | none => Sum.inl ()) (fun k a => a = k) hl
  (by intro a _; simp [slices_IndexFunc_Frag_l1T])
  (by
   intro k x r a' hm hk hd h1 h2 h3 hI
   subst hI
   simp only [slices_IndexFunc_Frag_l1T, h1, cnd_t, h2, bnd_s, h3, hc, List.findIdx?_cons]
   cases hv : x.name == name
   ·refine .inr ⟨a' + 1, rfl, rfl, ?_⟩
    simp only [Bool.false_eq_true, if_false]
    cases r.findIdx? (fun f => f.name == name) with
    | none => rfl
    | some j => simp only [Option.map_some]; congr 2; omega
   ·left; simp) (s := 0) (a := 0) rfl rfl
 have hrun : ∀ i, slices_IndexFunc_Frag_B l a b name d = some i → slices_IndexFunc_Frag l a b name d = some i := fun i h => slices_IndexFunc_Frag_run h
 unfold slices_IndexFunc_Frag_B at hrun
 rw [key] at hrun
 simp only [bnd_s, Nat.zero_add] at hrun
 cases hf : l.findIdx? (fun f => f.name == name) with
 | none =>
  rw [hf] at hrun
  refine ⟨-1, hrun _ rfl, ?_⟩
  rw [List.findIdx?_eq_none_iff] at hf
  have : l.find? (fun f => f.name == name) = none := List.find?_eq_none.2 fun x hx => by simp [hf x hx]
  rw [this]; rfl
 | some j =>
  rw [hf] at hrun
  refine ⟨(j : Int), hrun _ rfl, ?_⟩
  obtain ⟨hj, hp, hq⟩ := List.findIdx?_eq_some_iff_getElem.1 hf
  have : l.find? (fun f => f.name == name) = some l[j] := by
   rw [List.find?_eq_some_iff_getElem]
   exact ⟨hp, j, hj, rfl, fun k hk => by simpa using hq k hk⟩
  rw [this]
  exact ⟨by simp, by rw [nthI_nat, List.getElem?_eq_getElem hj]⟩
def fragD (d : GDoc) (n : Str) : GFrag × Bool := match d.frags.find? (fun f => f.name == n) with | some f => (f, true) | none => (zFrag, false)
theorem graph_Frag_ok (d : GDoc) (n : Str) (hl : Sm d.frags) : graph_Frag d n = some (fragD d n) := by
 apply graph_Frag_run
 obtain ⟨i, h1, h2⟩ := IndexFrag_ok d.frags [] [] n d hl
 simp only [graph_Frag_B, h1, bnd_s, fragD]
 cases hf : d.frags.find? (fun f => f.name == n) with
 | none => rw [hf] at h2; simp only at h2; rw [h2]; rfl
 | some f => rw [hf] at h2; obtain ⟨h3, h4⟩ := h2; rw [h3, h4]; rfl
theorem flat_len : ∀ l : List GFrag, (l.flatMap fun f => namesS f.sels).length ≤ sumL bkFrag l
 | [] => by simp [sumL]
 | f :: l => by
  have h1 := flat_len l
  have h2 := namesS_bk f.sels
  have h3 : bkSels f.sels ≤ bkFrag f := by rw [bkFrag_eq, bkSels_eq]; simp only [bkSl]; omega
  simp only [List.flatMap_cons, List.length_append, sumL]; omega
theorem bkDoc_frags (d : GDoc) : sumL bkFrag d.frags + 1 ≤ bkDoc d := by rw [bkDoc_eq]; simp only [bkSl]; omega
theorem bkFrag_pos (f : GFrag) : 1 ≤ bkFrag f := by rw [bkFrag_eq]; omega
theorem gKey_ok (x : GSel) : merge_Key x = some (gKey x) := by
 apply merge_Key_run
 unfold merge_Key_B gKey
 cases x.kind != 0
 ·simp only [cnd, cond_false]
  have : (x.alias == ([] : Str)) = (x.alias == []) := rfl
  cases hb : x.alias == ([] : Str) <;> rfl
 ·rfl
theorem gFrag_ok (d : GDoc) (n : Str) (hl : Sm d.frags) : graph_Frag d n = some (gFrag d n) := graph_Frag_ok d n hl
theorem gPoss_eq (s : GSchema) (n : Str) : possD s n = gPoss s n := rfl
theorem gApplies_ok (s : GSchema) (typ on0 : Str) (h : SOk s) : collect_Applies s typ on0 = some (gApplies s typ on0) := by
 apply collect_Applies_run
 unfold collect_Applies_B gApplies
 cases h1 : on0 == ([] : Str)
 ·cases h2 : on0 == typ
  ·have hl := possD_len s on0 h
   rw [gPoss_eq] at hl
   simp only [cnd, defs_Possible_ok s on0 h, gPoss_eq, bnd, slices_Contains_string_ok (gPoss s on0) typ (show (gPoss s on0).length < _ by omega), Bool.false_or]
  ·rfl
 ·rfl
theorem gGet_ok (n : Str) (l : List GMember) (hl : Sm l) : ∃ b, value_Get n l = some (gGet n l, b) := by
 have key := loop_find (b := value_Get_l1T n l) l (fun m => if m.name == n then some (Sum.inr (m.v.kind, m.v.n, m.v.s, m.v.l, m.v.m)) else none) (.inl ()) hl
  (by simp [value_Get_l1T])
  (by
   intro k x hm e1 e2 e3
   simp only [value_Get_l1T, e1, cnd_t, e2, bnd_s, e3]
   cases x.name == n <;> rfl)
 have hf := find_some l (fun m => m.name == n) (fun m => (Sum.inr (m.v.kind, m.v.n, m.v.s, m.v.l, m.v.m) : Unit ⊕ (Int × Int × Str × (List GValue) × (List GMember))))
 rw [hf] at key
 unfold gGet
 cases hh : l.find? (fun m => m.name == n) with
 | none =>
  rw [hh] at key
  exact ⟨false, value_Get_run (by simp only [value_Get_B, key, bnd_s]; rfl)⟩
 | some m =>
  rw [hh] at key
  refine ⟨true, value_Get_run (by simp only [value_Get_B, key, bnd_s]; rw [show m.v = ⟨m.v.kind, m.v.n, m.v.s, m.v.l, m.v.m⟩ by cases m.v; rfl]; rfl)⟩
theorem gYes_ok (env : List GMember) (d : GDir) (he : Sm env) (hd : Sm d.args) : collect_yes env d = some (gYes env d) := by
 apply collect_yes_run
 obtain ⟨b1, h1⟩ := gGet_ok [105, 102] d.args hd
 unfold collect_yes_B gYes
 simp only [h1, bnd_s]
 cases h8 : (gGet [105, 102] d.args).kind == 8
 ·simp only [cnd_f, cond_false]
  cases (gGet [105, 102] d.args).kind == 1 <;> rfl
 ·obtain ⟨b2, h2⟩ := gGet_ok (gGet [105, 102] d.args).s env he
  simp only [cnd_t, cond_true, h2, bnd_s]
  cases (gGet (gGet [105, 102] d.args).s env).kind == 1 <;> rfl
theorem IndexDir_ok (l : List GDir) (name : Str) (hl : Sm l) :
  ∃ i, slices_IndexFunc_Dir l name = some i ∧ (match l.find? (fun f => f.name == name) with | some f => decide (i ≥ 0) = true ∧ nthI l i = some f | none => decide (i ≥ 0) = false) := by
 have hc : ∀ f, collect_first_1 f name = some (f.name == name) := fun f => collect_first_1_run rfl
 have key := loop_list (b := slices_IndexFunc_Dir_l1T l name) l (fun k (_ : Nat) => (k : Int)) (fun r k => match r.findIdx? (fun f => f.name == name) with | some j => Sum.inr ((k + j : Nat) : Int) | none => Sum.inl ()) (fun k a => a = k) hl
  (by intro a _; simp [slices_IndexFunc_Dir_l1T])
  (by
   intro k x r a' hm hk hd h1 h2 h3 hI
   subst hI
   simp only [slices_IndexFunc_Dir_l1T, h1, cnd_t, h2, bnd_s, h3, hc, List.findIdx?_cons]
   cases hv : x.name == name
   ·refine .inr ⟨a' + 1, rfl, rfl, ?_⟩
    simp only [Bool.false_eq_true, if_false]
    cases r.findIdx? (fun f => f.name == name) with
    | none => rfl
    | some j => simp only [Option.map_some]; congr 2; omega
   ·left; simp) (s := 0) (a := 0) rfl rfl
 have hrun : ∀ i, slices_IndexFunc_Dir_B l name = some i → slices_IndexFunc_Dir l name = some i := fun i h => slices_IndexFunc_Dir_run h
 unfold slices_IndexFunc_Dir_B at hrun
 rw [key] at hrun
 simp only [bnd_s, Nat.zero_add] at hrun
 cases hf : l.findIdx? (fun f => f.name == name) with
 | none =>
  rw [hf] at hrun
  refine ⟨-1, hrun _ rfl, ?_⟩
  rw [List.findIdx?_eq_none_iff] at hf
  have : l.find? (fun f => f.name == name) = none := List.find?_eq_none.2 fun x hx => by simp [hf x hx]
  rw [this]; rfl
 | some j =>
  rw [hf] at hrun
  refine ⟨(j : Int), hrun _ rfl, ?_⟩
  obtain ⟨hj, hp, hq⟩ := List.findIdx?_eq_some_iff_getElem.1 hf
  have : l.find? (fun f => f.name == name) = some l[j] := by
   rw [List.find?_eq_some_iff_getElem]
   exact ⟨hp, j, hj, rfl, fun k hk => by simpa using hq k hk⟩
  rw [this]
  exact ⟨by simp, by rw [nthI_nat, List.getElem?_eq_getElem hj]⟩
theorem gFirst_ok (env : List GMember) (n : Str) (l : List GDir) (he : Sm env) (hl : Sm l) (hd : ∀ d ∈ l, Sm d.args) : collect_first env n l = some (gFirst env n l) := by
 apply collect_first_run
 obtain ⟨i, h1, h2⟩ := IndexDir_ok l n hl
 unfold collect_first_B gFirst
 simp only [h1, bnd_s]
 cases hf : l.find? (fun f => f.name == n) with
 | none => rw [hf] at h2; simp only at h2; rw [h2]; rfl
 | some d =>
  rw [hf] at h2
  obtain ⟨h3, h4⟩ := h2
  rw [h3, h4]
  simp only [cnd_t, bnd_s, gYes_ok env d he (hd d (List.mem_of_find?_eq_some hf))]
theorem gHolds_ok (env : List GMember) (l : List GDir) (he : Sm env) (hl : Sm l) (hd : ∀ d ∈ l, Sm d.args) : collect_Holds env l = some (gHolds env l) := by
 apply collect_Holds_run
 unfold collect_Holds_B gHolds
 simp only [gFirst_ok env _ l he hl hd, bnd_s]
 cases (gFirst env [115, 107, 105, 112] l).2 <;> cases (gFirst env [105, 110, 99, 108, 117, 100, 101] l).1 <;> rfl
theorem holds_nil_ok : collect_Holds_i1 = some true := by
 apply collect_Holds_i1_run
 unfold collect_Holds_i1_B
 simp only [gFirst_ok [] _ [] (by show 0 < _; omega) (by show 0 < _; omega) (by simp), bnd_s]
 rfl
theorem step_mono {e : GEnv} {r r' : List GSel → GSt → Option GSt} (h : ∀ l st s, r l st = some s → r' l st = some s) {x : GSel} {st s : GSt} (hs : stepG e r x st = some s) : stepG e r' x st = some s := by
 unfold stepG at hs ⊢
 cases h1 : gHolds e.env x.dirs <;> rw [h1] at hs
 ·exact hs
 cases h2 : x.kind == 0 <;> rw [h2] at hs
 ·cases h3 : x.kind == 1 <;> rw [h3] at hs
  ·cases h4 : x.kind == 2 <;> rw [h4] at hs
   ·exact hs
   ·cases h5 : gApplies e.s e.typ x.on_ <;> rw [h5] at hs
    ·exact hs
    ·exact h _ _ _ hs
  ·cases h4 : st.2.contains x.name <;> rw [h4] at hs
   ·cases h5 : (gFrag e.d x.name).2 && gApplies e.s e.typ (gFrag e.d x.name).1.on_ <;> rw [h5] at hs
    ·exact hs
    ·exact h _ _ _ hs
   ·exact hs
 ·exact hs
theorem thr_succ (e : GEnv) : ∀ (n : Nat) (l : List GSel) (st s : GSt), thr e n l st = some s → thr e (n + 1) l st = some s
 | 0, l, st, s, h => by simp [thr] at h
 | n + 1, [], st, s, h => by simpa [thr] using h
 | n + 1, x :: l, st, s, h => by
  simp only [thr] at h
  obtain ⟨s1, h1, h2⟩ := Ev.bnd_some h
  have e1 := step_mono (thr_succ e n) h1
  show bnd (stepG e (thr e (n + 1)) x st) (fun st => thr e (n + 1) l st) = some s
  rw [e1]
  exact thr_succ e n l s1 s h2
theorem thr_le (e : GEnv) {n m : Nat} (h : n ≤ m) {l : List GSel} {st s : GSt} (ht : thr e n l st = some s) : thr e m l st = some s := by
 induction h with
 | refl => exact ht
 | step _ ih => exact thr_succ e _ _ _ _ ih
theorem thr_det (e : GEnv) {n m : Nat} {l : List GSel} {st s s' : GSt} (h : thr e n l st = some s) (h' : thr e m l st = some s') : s = s' := by
 have h1 := thr_le e (Nat.le_max_left n m) h
 have h2 := thr_le e (Nat.le_max_right n m) h'
 rw [h1] at h2
 exact Option.some.inj h2
theorem thr_app (e : GEnv) : ∀ (n : Nat) (l m : List GSel) (st s' : GSt), thr e n (l ++ m) st = some s' → ∃ s k, thr e n l st = some s ∧ thr e k m s = some s'
 | 0, l, m, st, s', h => by simp [thr] at h
 | n + 1, [], m, st, s', h => ⟨st, n + 1, by simp [thr], h⟩
 | n + 1, x :: l, m, st, s', h => by
  simp only [List.cons_append, thr] at h
  obtain ⟨s1, h1, h2⟩ := Ev.bnd_some h
  obtain ⟨s, k, h3, h4⟩ := thr_app e n l m s1 s' h2
  refine ⟨s, k, ?_, h4⟩
  simp only [thr, h1, bnd]
  exact h3
theorem thr_rel {e : GEnv} (R : GSt → GSt → Prop) (hr : ∀ s, R s s) (ht : ∀ a b c, R a b → R b c → R a c) (hput : ∀ (x : GSel) (st : GSt), gHolds e.env x.dirs = true → x.kind = 0 → R st (putG st.1 (gKey x) x, st.2)) (hmet : ∀ (n : Str) (st : GSt), R st (st.1, st.2 ++ [n])) :
  ∀ (n : Nat) (l : List GSel) (st s : GSt), thr e n l st = some s → R st s
 | 0, l, st, s, h => by simp [thr] at h
 | n + 1, [], st, s, h => by simp only [thr, Option.some.injEq] at h; subst h; exact hr _
 | n + 1, x :: l, st, s, h => by
  simp only [thr] at h
  obtain ⟨s1, h1, h2⟩ := Ev.bnd_some h
  refine ht _ s1 _ ?_ (thr_rel R hr ht hput hmet n l s1 s h2)
  have ih := thr_rel R hr ht hput hmet n
  unfold stepG at h1
  cases hh : gHolds e.env x.dirs <;> rw [hh] at h1
  ·cases h1; exact hr _
  simp only [cond_true] at h1
  cases h0 : x.kind == 0 <;> rw [h0] at h1
  ·simp only [cond_false] at h1
   cases h11 : x.kind == 1 <;> rw [h11] at h1
   ·simp only [cond_false] at h1
    cases h12 : x.kind == 2 <;> rw [h12] at h1
    ·cases h1; exact hr _
    ·simp only [cond_true] at h1
     cases h13 : gApplies e.s e.typ x.on_ <;> rw [h13] at h1
     ·cases h1; exact hr _
     ·exact ih _ _ _ h1
   ·simp only [cond_true] at h1
    cases h12 : st.2.contains x.name <;> rw [h12] at h1
    ·simp only [cond_false] at h1
     cases h13 : (gFrag e.d x.name).2 && gApplies e.s e.typ (gFrag e.d x.name).1.on_ <;> rw [h13] at h1
     ·cases h1; exact hmet _ _
     ·exact ht _ _ _ (hmet _ _) (ih _ _ _ h1)
    ·cases h1; exact hr _
  ·cases h1; exact hput x st hh (by simpa using h0)
structure KeysOk (e : GEnv) (l : List GGroup) : Prop where
 ne : ∀ g ∈ l, g.sels ≠ []
 own : ∀ g ∈ l, ∀ x ∈ g.sels, x.kind = 0 ∧ gKey x = g.key ∧ gHolds e.env x.dirs = true
 once : (l.map (·.key)).Nodup
theorem put_keys (k : Str) (x : GSel) : ∀ l : List GGroup, (putG l k x).map (·.key) = bif (l.map (·.key)).contains k then l.map (·.key) else l.map (·.key) ++ [k]
 | [] => rfl
 | g :: l => by
  simp only [putG]
  by_cases h : g.key = k
  ·rw [if_pos h]; simp [h]
  ·rw [if_neg h]
   have hb : (k == g.key) = false := by simpa using fun e => h e.symm
   simp only [List.map_cons, put_keys k x l, List.contains_cons, hb, Bool.false_or]
   cases (List.map (fun x => x.key) l).contains k <;> rfl
theorem put_mem (k : Str) (x : GSel) : ∀ (l : List GGroup) (g : GGroup), g ∈ putG l k x → g ∈ l ∨ (g.key = k ∧ ∃ s, g.sels = s ++ [x] ∧ (s = [] ∨ ∃ g' ∈ l, g'.key = k ∧ g'.sels = s))
 | [], g, h => by
  simp only [putG, List.mem_singleton] at h
  subst h
  exact .inr ⟨rfl, [], rfl, .inl rfl⟩
 | a :: l, g, h => by
  simp only [putG] at h
  by_cases e : a.key = k
  ·rw [if_pos e] at h
   rcases List.mem_cons.1 h with rfl | h
   ·exact .inr ⟨e, a.sels, rfl, .inr ⟨a, by simp, e, rfl⟩⟩
   ·exact .inl (by simp [h])
  ·rw [if_neg e] at h
   rcases List.mem_cons.1 h with rfl | h
   ·exact .inl (by simp)
   ·rcases put_mem k x l g h with h | ⟨h1, s, h2, h3⟩
    ·exact .inl (by simp [h])
    ·refine .inr ⟨h1, s, h2, ?_⟩
     rcases h3 with h3 | ⟨g', h4, h5⟩
     ·exact .inl h3
     ·exact .inr ⟨g', by simp [h4], h5⟩
theorem keys_put {e : GEnv} {x : GSel} {l : List GGroup} (h : KeysOk e l) (hh : gHolds e.env x.dirs = true) (hk : x.kind = 0) : KeysOk e (putG l (gKey x) x) := by
 refine ⟨fun g hg => ?_, fun g hg y hy => ?_, ?_⟩
 ·rcases put_mem _ _ _ _ hg with h1 | ⟨_, s, h2, _⟩
  ·exact h.ne g h1
  ·rw [h2]; simp
 ·rcases put_mem _ _ _ _ hg with h1 | ⟨h1, s, h2, h3⟩
  ·exact h.own g h1 y hy
  ·rw [h2, List.mem_append, List.mem_singleton] at hy
   rcases hy with hy | rfl
   ·rcases h3 with rfl | ⟨g', h4, h5, rfl⟩
    ·simp at hy
    ·have := h.own g' h4 y hy
     rw [h1, ← h5]; exact this
   ·exact ⟨hk, h1.symm, hh⟩
 ·rw [put_keys]
  cases hc : (l.map (·.key)).contains (gKey x)
  ·rw [cond_false, List.nodup_append]
   refine ⟨h.once, by simp, ?_⟩
   intro a ha b hb
   simp only [List.mem_singleton] at hb
   subst hb
   rintro rfl
   rw [Bool.eq_false_iff] at hc
   exact hc (List.contains_iff_mem.2 ha)
  ·exact h.once
theorem thr_keys {e : GEnv} {n : Nat} {l : List GSel} {met : List Str} {s : GSt} (h : thr e n l ([], met) = some s) : KeysOk e s.1 :=
 thr_rel (fun a b => KeysOk e a.1 → KeysOk e b.1) (fun _ h => h) (fun _ _ _ h k x => k (h x)) (fun x st hh hk h => keys_put h hh hk) (fun _ _ h => h) n l _ _ h ⟨by simp, by simp, by simp⟩
def FrontOf (a b : List GGroup) : Prop := ∀ (i : Nat) (g : GGroup), a[i]? = some g → ∃ g', b[i]? = some g' ∧ g'.key = g.key ∧ ∃ t, g'.sels = g.sels ++ t
theorem FrontOf.refl (a : List GGroup) : FrontOf a a := fun i g h => ⟨g, h, rfl, [], by simp⟩
theorem FrontOf.trans {a b c : List GGroup} (h : FrontOf a b) (k : FrontOf b c) : FrontOf a c := by
 intro i g hg
 obtain ⟨g1, h1, h2, t, h3⟩ := h i g hg
 obtain ⟨g2, k1, k2, u, k3⟩ := k i g1 h1
 exact ⟨g2, k1, k2.trans h2, t ++ u, by rw [k3, h3, List.append_assoc]⟩
theorem front_put (k : Str) (x : GSel) : ∀ l : List GGroup, FrontOf l (putG l k x)
 | [] => fun i g h => by simp at h
 | a :: l => by
  intro i g h
  simp only [putG]
  by_cases e : a.key = k
  ·rw [if_pos e]
   cases i with
   | zero => simp at h; subst h; exact ⟨_, rfl, rfl, [x], rfl⟩
   | succ i => exact ⟨g, by simpa using h, rfl, [], by simp⟩
  ·rw [if_neg e]
   cases i with
   | zero => simp at h; subst h; exact ⟨a, rfl, rfl, [], by simp⟩
   | succ i =>
    obtain ⟨g', h1, h2⟩ := front_put k x l i g (by simpa using h)
    exact ⟨g', by simpa using h1, h2⟩
theorem thr_front {e : GEnv} {n : Nat} {l : List GSel} {st s : GSt} (h : thr e n l st = some s) : FrontOf st.1 s.1 :=
 thr_rel (fun a b => FrontOf a.1 b.1) (fun _ => FrontOf.refl _) (fun _ _ _ => FrontOf.trans) (fun x st _ _ => front_put _ _ _) (fun _ st => FrontOf.refl _) n l st s h
theorem FrontOf.len {a b : List GGroup} (h : FrontOf a b) : a.length ≤ b.length := by
 rcases Nat.eq_zero_or_pos a.length with h0 | h0
 ·omega
 ·obtain ⟨g', h1, _⟩ := h (a.length - 1) a[a.length - 1] (List.getElem?_eq_getElem (by omega))
  have := (List.getElem?_eq_some_iff.1 h1).1
  omega
end Go.Proofs.Ytfbaogfcpldlnaa
