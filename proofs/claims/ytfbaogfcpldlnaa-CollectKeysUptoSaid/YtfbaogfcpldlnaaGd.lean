import Derived.Test.YtfbaogfcpldlnaaGc
import Derived.Test.YtfbaogfcpldlnaaGa
import Derived.LoopTactic
import Derived.WalkKit
import Derived.Deep.AppendLies
import Derived.Maps.OwnOps
import Derived.StillTailTactics
import Derived.Deep.QuietTactic
import Derived.BigQuiet
import Derived.Deep.RegionLaw
import Derived.OwnWalk
import Derived.BigRegion
import Derived.Maps.Views
import Derived.Maps.OwnSet
import Derived.Deep.RegionWith
import Derived.Test.YtfbaogfcpldlnaaEd
import Derived.Test.YtfbaogfcpldlnaaRows
import Derived.ProofKit
import Derived.OpenShut
import Derived.JoinedCond
set_option linter.unusedVariables false
set_option linter.unusedSimpArgs false
set_option linter.unusedSimpArgs false
open Go Go.Ev
namespace Go.Proofs.Ytfbaogfcpldlnaa
theorem members_keep (m : List GMember) (hm : m.length < 1073741824) (h : ∀ x ∈ m, seinekeep_Value x.v = some x.v) : seinekeep_Members m = some m := by
 apply seinekeep_Members_run
 unfold seinekeep_Members_B
 rw [loop_copy (b := seinekeep_Members_l1T m) m (fun k a => (a, (k : Int))) hm (by intro a; simp [seinekeep_Members_l1T]) (by
  intro k x a hx h1 h2 h3 h4
  simp only [seinekeep_Members_l1T, h1, cnd_t, h2, bnd_s, h3, h4, h x hx]
  cases x; rfl) (s := ([], 0)) rfl]
 rfl
theorem seinekeep_Value_ok' : ∀ (n : Nat), n < 1073741824 → ∀ v : GValue, szV v ≤ n → seinekeep_Value v = some v := by
 intro n
 induction n with
 | zero => intro _ v h; have := szV_eq v; omega
 | succ n ih =>
  intro hn v h
  have hv := szV_eq v
  have hl := szVs_len v.l
  have hm := szMs_len v.m
  apply seinekeep_Value_run
  unfold seinekeep_Value_B
  rw [loop_copy (b := seinekeep_Value_l1T v) v.l (fun k a => (a, (k : Int))) (by omega) (by intro a; simp [seinekeep_Value_l1T]) (by
   intro k x a hx h1 h2 h3 h4
   simp only [seinekeep_Value_l1T, h1, cnd_t, h2, bnd_s, h3, h4, ih (by omega) x (by have := szVs_mem hx; omega)]) (s := ([], 0)) rfl]
  simp only [bnd_s, members_keep v.m (by omega) fun x hx => ih (by omega) x.v (by have := szMs_mem hx; have := szM_eq x; omega)]
  cases v; rfl
theorem seinekeep_Value_ok (v : GValue) (h : szV v < 1073741824) : seinekeep_Value v = some v := seinekeep_Value_ok' _ h v (Nat.le_refl _)
theorem szV_mem_bk {m : List GMember} (h : bkSl bkMember m < 1073741824) {x : GMember} (hx : x ∈ m) : szV x.v < 1073741824 := by
 have h1 := sl_mem (f := bkMember) hx
 have h2 := szM_bk x
 have h3 := szM_eq x
 omega
theorem seinekeep_Dirs_ok (l : List GDir) (h : bkSl bkDir l < 1073741824) : seinekeep_Dirs l = some l := by
 apply seinekeep_Dirs_run
 unfold seinekeep_Dirs_B
 have hl := sl_len bkDir_pos l
 rw [loop_copy (b := seinekeep_Dirs_l1T l) l (fun k a => (a, (k : Int))) (by omega) (by intro a; simp [seinekeep_Dirs_l1T]) (by
  intro k x a hx h1 h2 h3 h4
  have hb := sl_mem (f := bkDir) hx
  rw [bkDir_eq] at hb
  have hm := sl_len bkMember_pos x.args
  simp only [seinekeep_Dirs_l1T, h1, cnd_t, h2, bnd_s, h3, h4, members_keep x.args (by omega) fun y hy => seinekeep_Value_ok y.v (szV_mem_bk (by omega) hy)]) (s := ([], 0)) rfl]
 rfl
theorem seineref6_SameDirs_self (l : List GDir) (h : bkSl bkDir l < 1073741824) : seineref6_SameDirs l l = some true := by
 apply seineref6_SameDirs_run
 unfold seineref6_SameDirs_B
 have hl := sl_len bkDir_pos l
 rw [loop_all (b := seineref6_SameDirs_l1T l l) l (.inl ()) (by show l.length < _; omega) (by simp [seineref6_SameDirs_l1T]) (by
  intro k x hx h1 h2 h3
  have hb := sl_mem (f := bkDir) hx
  rw [bkDir_eq] at hb
  have hm := sl_len bkMember_pos x.args
  simp only [seineref6_SameDirs_l1T, h1, cnd_t, h2, bnd_s, h3, beq_self_eq_true, Bool.not_true, cnd_f, members_of x.args (by omega) fun y hy => seineref1_Same_self y.v (szV_mem_bk (by omega) hy)])]
 simp
theorem lightTexts_ex (l : List Str) (h : l.length < 1073741824) : ∃ n, seinelaw8_lightTexts l = some n := by
 obtain ⟨r, hr⟩ := loop_ex (b := seinelaw8_lightTexts_l1T l) l (fun k (a : Int) => (a, (k : Int))) (by show l.length < _; omega) (fun a => ⟨a, by simp [seinelaw8_lightTexts_l1T]⟩) (by
  intro k x a hx h1 h2 h3
  right; simp only [seinelaw8_lightTexts_l1T, h1, cnd_t, h2, bnd_s, h3]; exact ⟨_, rfl⟩) (s := (0, 0)) (a := 0) rfl
 exact ⟨r, seinelaw8_lightTexts_run (by simp only [seinelaw8_lightTexts_B, hr, bnd_s])⟩
theorem lightParams_ex (l : List GParam) (h : bkSl bkParam l < 1073741824) : ∃ n, seinelaw8_lightParams l = some n := by
 have hl := sl_len bkParam_pos l
 obtain ⟨r, hr⟩ := loop_ex (b := seinelaw8_lightParams_l1T l) l (fun k (a : Int) => (a, (k : Int))) (by show l.length < _; omega) (fun a => ⟨a, by simp [seinelaw8_lightParams_l1T]⟩) (by
  intro k x a hx h1 h2 h3
  have hb := sl_mem (f := bkParam) hx
  rw [bkParam_eq] at hb
  have hv := szV_bk x.default
  right; simp only [seinelaw8_lightParams_l1T, h1, cnd_t, h2, bnd_s, h3, seinekeep_Size_ok x.default (by omega)]; exact ⟨_, rfl⟩) (s := (0, 0)) (a := 0) rfl
 exact ⟨r, seinelaw8_lightParams_run (by simp only [seinelaw8_lightParams_B, hr, bnd_s])⟩
theorem lightDirs_ex (l : List GDir) (h : bkSl bkDir l < 1073741824) : ∃ n, seinelaw8_lightDirs l = some n := by
 have hl := sl_len bkDir_pos l
 obtain ⟨r, hr⟩ := loop_ex (b := seinelaw8_lightDirs_l1T l) l (fun k (a : Int) => (a, (k : Int))) (by show l.length < _; omega) (fun a => ⟨a, by simp [seinelaw8_lightDirs_l1T]⟩) (by
  intro k x a hx h1 h2 h3
  have hb := sl_mem (f := bkDir) hx
  rw [bkDir_eq] at hb
  have hv : szV ⟨0, 0, [], [], x.args⟩ < 4611686018427387904 := by
   have h4 := szMs_bk x.args
   rw [bkMembers_eq] at h4
   simp only [szV, szVs, List.length_nil]
   have h5 : bkSl bkMember x.args = sumL bkMember x.args + 1 := rfl
   omega
  right; simp only [seinelaw8_lightDirs_l1T, h1, cnd_t, h2, bnd_s, h3, seinekeep_Size_ok _ hv]; exact ⟨_, rfl⟩) (s := (0, 0)) (a := 0) rfl
 exact ⟨r, seinelaw8_lightDirs_run (by simp only [seinelaw8_lightDirs_B, hr, bnd_s])⟩
theorem seinelaw8_Light_ex (s : GSchema) (h : SOk s) : ∃ b, seinelaw8_Light s = some b := by
 obtain ⟨r, hr⟩ := loop_ex (b := seinelaw8_Light_l2T s) s.defs (fun k (a : Int) => (a, (k : Int))) h.sm (fun a => ⟨a, by simp [seinelaw8_Light_l2T]⟩) (by
  intro k d a hd h1 h2 h3
  have hb := h.def_bk hd
  rw [bkDef_eq] at hb
  obtain ⟨n1, e1⟩ := lightTexts_ex d.faces (h.faces d hd)
  obtain ⟨n2, e2⟩ := lightTexts_ex d.parts (h.parts d hd)
  obtain ⟨n3, e3⟩ := lightParams_ex d.params (by omega)
  have hin : ∀ n0 : Int, ∃ n, tloop (seinelaw8_Light_l1T d) (n0, 0) = some n := by
   intro n0
   refine loop_ex (b := seinelaw8_Light_l1T d) d.fields (fun k (a : Int) => (a, (k : Int))) (by have := h.fields d hd; show d.fields.length < _; omega) (fun a => ⟨a, by simp [seinelaw8_Light_l1T]⟩) (by
    intro k f a hf h1 h2 h3
    have hfb := sl_mem (f := bkFieldDef) hf
    rw [bkFieldDef_eq] at hfb
    obtain ⟨m1, g1⟩ := lightParams_ex f.params (by omega)
    obtain ⟨m2, g2⟩ := lightDirs_ex f.dirs (by omega)
    right; simp only [seinelaw8_Light_l1T, h1, cnd_t, h2, bnd_s, h3, g1, g2]; exact ⟨_, rfl⟩) (a := n0) rfl
  right
  simp only [seinelaw8_Light_l2T, h1, cnd_t, h2, bnd_s, h3, e1, e2, e3]
  obtain ⟨n, hn⟩ := hin (IntKind.wrap .i64 ((IntKind.wrap .i64 ((IntKind.wrap .i64 ((IntKind.wrap .i64 ((IntKind.wrap .i64 (a + 1)) + (List.length d.name : Int))) + n1)) + n2)) + n3))
  rw [hn]
  exact ⟨n, rfl⟩) (s := (0, 0)) (a := 0) rfl
 exact ⟨decide (r ≤ 4000), seinelaw8_Light_run (by simp only [seinelaw8_Light_B, hr, bnd_s])⟩
open Go Go.Ev
mutual
def namesS1 : GSel → List Str
 | ⟨k, _, n, _, _, _, l⟩ => (bif k == 1 then [n] else []) ++ namesS l
def namesS : List GSel → List Str
 | [] => []
 | x :: l => namesS1 x ++ namesS l
end
mutual
theorem namesS1_bk : ∀ x : GSel, (namesS1 x).length ≤ bkSel x
 | ⟨k, a, n, ar, di, o, l⟩ => by
  have h := namesS_bk l
  simp only [namesS1, bkSel, List.length_append]
  cases k == 1 <;> simp only [cond_true, cond_false, List.length_singleton, List.length_nil, bk1] <;> omega
theorem namesS_bk : ∀ l : List GSel, (namesS l).length ≤ bkSels l
 | [] => by simp [namesS]
 | x :: l => by have := namesS1_bk x; have := namesS_bk l; simp only [namesS, bkSels, List.length_append]; omega
end
theorem bkSels_mem {x : GSel} {l : List GSel} (h : x ∈ l) : bkSel x ≤ bkSels l := by rw [bkSels_eq]; exact sumL_mem bkSel h
theorem bkSel_sels (x : GSel) : bkSels x.sels + 1 ≤ bkSel x := by rw [bkSel_eq, bkSels_eq]; simp only [bkSl]; omega
theorem bkSel_pos (x : GSel) : 1 ≤ bkSel x := by rw [bkSel_eq]; omega
theorem bkSels_len (l : List GSel) : l.length ≤ bkSels l := by rw [bkSels_eq]; exact sumL_len bkSel bkSel_pos l
abbrev zFrag : GFrag := ⟨[], [], [], []⟩
theorem IndexFrag_ok (l : List GFrag) (a b name : Str) (d : GDoc) (hl : Sm l) :
  ∃ i, slices_IndexFunc_Frag l a b name d = some i ∧ (match l.find? (fun f => f.name == name) with | some f => decide (i < 0) = false ∧ nthI l i = some f | none => decide (i < 0) = true) := by
 have hc : ∀ f, graph_Frag_1 f a b name d = some (f.name == name) := fun f => graph_Frag_1_run rfl
 have key := loop_list (b := slices_IndexFunc_Frag_l1T l a b name d) l (fun k (_ : Nat) => (k : Int)) (fun r k => match r.findIdx? (fun f => f.name == name) with | some j => Sum.inr ((k + j : Nat) : Int) | none => Sum.inl ()) (fun k a => a = k) hl
  (by intro a _; simp [slices_IndexFunc_Frag_l1T])
  (by
   intro k x r a' hm hk hd h1 h2 h3 hI
   subst hI
   simp only [slices_IndexFunc_Frag_l1T, h1, cnd_t, h2, bnd_s, h3, hc, List.findIdx?_cons]
   cases hv : x.name == name
   ·refine .inr ⟨a' + 1, rfl, rfl, ?_⟩
    simp only [Bool.false_eq_true, if_false]
    cases r.findIdx? (fun f => f.name == name) with
    | none => rfl
    | some j => simp only [Option.map_some]; congr 2; omega
   ·left; simp) (s := 0) (a := 0) rfl rfl
 have hrun : ∀ i, slices_IndexFunc_Frag_B l a b name d = some i → slices_IndexFunc_Frag l a b name d = some i := fun i h => slices_IndexFunc_Frag_run h
 unfold slices_IndexFunc_Frag_B at hrun
 rw [key] at hrun
 simp only [bnd_s, Nat.zero_add] at hrun
 cases hf : l.findIdx? (fun f => f.name == name) with
 | none =>
  rw [hf] at hrun
  refine ⟨-1, hrun _ rfl, ?_⟩
  rw [List.findIdx?_eq_none_iff] at hf
  have : l.find? (fun f => f.name == name) = none := List.find?_eq_none.2 fun x hx => by simp [hf x hx]
  rw [this]; rfl
 | some j =>
  rw [hf] at hrun
  refine ⟨(j : Int), hrun _ rfl, ?_⟩
  obtain ⟨hj, hp, hq⟩ := List.findIdx?_eq_some_iff_getElem.1 hf
  have : l.find? (fun f => f.name == name) = some l[j] := by
   rw [List.find?_eq_some_iff_getElem]
   exact ⟨hp, j, hj, rfl, fun k hk => by simpa using hq k hk⟩
  rw [this]
  exact ⟨by simp, by rw [nthI_nat, List.getElem?_eq_getElem hj]⟩
def fragD (d : GDoc) (n : Str) : GFrag × Bool := match d.frags.find? (fun f => f.name == n) with | some f => (f, true) | none => (zFrag, false)
theorem graph_Frag_ok (d : GDoc) (n : Str) (hl : Sm d.frags) : graph_Frag d n = some (fragD d n) := by
 apply graph_Frag_run
 obtain ⟨i, h1, h2⟩ := IndexFrag_ok d.frags [] [] n d hl
 simp only [graph_Frag_B, h1, bnd_s, fragD]
 cases hf : d.frags.find? (fun f => f.name == n) with
 | none => rw [hf] at h2; simp only at h2; rw [h2]; rfl
 | some f => rw [hf] at h2; obtain ⟨h3, h4⟩ := h2; rw [h3, h4]; rfl
theorem flat_len : ∀ l : List GFrag, (l.flatMap fun f => namesS f.sels).length ≤ sumL bkFrag l
 | [] => by simp [sumL]
 | f :: l => by
  have h1 := flat_len l
  have h2 := namesS_bk f.sels
  have h3 : bkSels f.sels ≤ bkFrag f := by rw [bkFrag_eq, bkSels_eq]; simp only [bkSl]; omega
  simp only [List.flatMap_cons, List.length_append, sumL]; omega
theorem bkDoc_frags (d : GDoc) : sumL bkFrag d.frags + 1 ≤ bkDoc d := by rw [bkDoc_eq]; simp only [bkSl]; omega
theorem bkFrag_pos (f : GFrag) : 1 ≤ bkFrag f := by rw [bkFrag_eq]; omega
theorem gKey_ok (x : GSel) : merge_Key x = some (gKey x) := by
 apply merge_Key_run
 unfold merge_Key_B gKey
 cases x.kind != 0
 ·simp only [cnd, cond_false]
  have : (x.alias == ([] : Str)) = (x.alias == []) := rfl
  cases hb : x.alias == ([] : Str) <;> rfl
 ·rfl
theorem gFrag_ok (d : GDoc) (n : Str) (hl : Sm d.frags) : graph_Frag d n = some (gFrag d n) := graph_Frag_ok d n hl
theorem gPoss_eq (s : GSchema) (n : Str) : possD s n = gPoss s n := rfl
theorem gApplies_ok (s : GSchema) (typ on0 : Str) (h : SOk s) : collect_Applies s typ on0 = some (gApplies s typ on0) := by
 apply collect_Applies_run
 unfold collect_Applies_B gApplies
 cases h1 : on0 == ([] : Str)
 ·cases h2 : on0 == typ
  ·have hl := possD_len s on0 h
   rw [gPoss_eq] at hl
   simp only [cnd, defs_Possible_ok s on0 h, gPoss_eq, bnd, slices_Contains_string_ok (gPoss s on0) typ (show (gPoss s on0).length < _ by omega), Bool.false_or]
  ·rfl
 ·rfl
theorem gGet_ok (n : Str) (l : List GMember) (hl : Sm l) : ∃ b, value_Get n l = some (gGet n l, b) := by
 have key := loop_find (b := value_Get_l1T n l) l (fun m => if m.name == n then some (Sum.inr (m.v.kind, m.v.n, m.v.s, m.v.l, m.v.m)) else none) (.inl ()) hl
  (by simp [value_Get_l1T])
  (by
   intro k x hm e1 e2 e3
   simp only [value_Get_l1T, e1, cnd_t, e2, bnd_s, e3]
   cases x.name == n <;> rfl)
 have hf := find_some l (fun m => m.name == n) (fun m => (Sum.inr (m.v.kind, m.v.n, m.v.s, m.v.l, m.v.m) : Unit ⊕ (Int × Int × Str × (List GValue) × (List GMember))))
 rw [hf] at key
 unfold gGet
 cases hh : l.find? (fun m => m.name == n) with
 | none =>
  rw [hh] at key
  exact ⟨false, value_Get_run (by simp only [value_Get_B, key, bnd_s]; rfl)⟩
 | some m =>
  rw [hh] at key
  refine ⟨true, value_Get_run (by simp only [value_Get_B, key, bnd_s]; rw [show m.v = ⟨m.v.kind, m.v.n, m.v.s, m.v.l, m.v.m⟩ by cases m.v; rfl]; rfl)⟩
theorem gYes_ok (env : List GMember) (d : GDir) (he : Sm env) (hd : Sm d.args) : collect_yes env d = some (gYes env d) := by
 apply collect_yes_run
 obtain ⟨b1, h1⟩ := gGet_ok [105, 102] d.args hd
 unfold collect_yes_B gYes
 simp only [h1, bnd_s]
 cases h8 : (gGet [105, 102] d.args).kind == 8
 ·simp only [cnd_f, cond_false]
  cases (gGet [105, 102] d.args).kind == 1 <;> rfl
 ·obtain ⟨b2, h2⟩ := gGet_ok (gGet [105, 102] d.args).s env he
  simp only [cnd_t, cond_true, h2, bnd_s]
  cases (gGet (gGet [105, 102] d.args).s env).kind == 1 <;> rfl
theorem IndexDir_ok (l : List GDir) (name : Str) (hl : Sm l) :
  ∃ i, slices_IndexFunc_Dir l name = some i ∧ (match l.find? (fun f => f.name == name) with | some f => decide (i ≥ 0) = true ∧ nthI l i = some f | none => decide (i ≥ 0) = false) := by
 have hc : ∀ f, collect_first_1 f name = some (f.name == name) := fun f => collect_first_1_run rfl
 have key := loop_list (b := slices_IndexFunc_Dir_l1T l name) l (fun k (_ : Nat) => (k : Int)) (fun r k => match r.findIdx? (fun f => f.name == name) with | some j => Sum.inr ((k + j : Nat) : Int) | none => Sum.inl ()) (fun k a => a = k) hl
  (by intro a _; simp [slices_IndexFunc_Dir_l1T])
  (by
   intro k x r a' hm hk hd h1 h2 h3 hI
   subst hI
   simp only [slices_IndexFunc_Dir_l1T, h1, cnd_t, h2, bnd_s, h3, hc, List.findIdx?_cons]
   cases hv : x.name == name
   ·refine .inr ⟨a' + 1, rfl, rfl, ?_⟩
    simp only [Bool.false_eq_true, if_false]
    cases r.findIdx? (fun f => f.name == name) with
    | none => rfl
    | some j => simp only [Option.map_some]; congr 2; omega
   ·left; simp) (s := 0) (a := 0) rfl rfl
 have hrun : ∀ i, slices_IndexFunc_Dir_B l name = some i → slices_IndexFunc_Dir l name = some i := fun i h => slices_IndexFunc_Dir_run h
 unfold slices_IndexFunc_Dir_B at hrun
 rw [key] at hrun
 simp only [bnd_s, Nat.zero_add] at hrun
 cases hf : l.findIdx? (fun f => f.name == name) with
 | none =>
  rw [hf] at hrun
  refine ⟨-1, hrun _ rfl, ?_⟩
  rw [List.findIdx?_eq_none_iff] at hf
  have : l.find? (fun f => f.name == name) = none := List.find?_eq_none.2 fun x hx => by simp [hf x hx]
  rw [this]; rfl
 | some j =>
  rw [hf] at hrun
  refine ⟨(j : Int), hrun _ rfl, ?_⟩
  obtain ⟨hj, hp, hq⟩ := List.findIdx?_eq_some_iff_getElem.1 hf
  have : l.find? (fun f => f.name == name) = some l[j] := by
   rw [List.find?_eq_some_iff_getElem]
   exact ⟨hp, j, hj, rfl, fun k hk => by simpa using hq k hk⟩
  rw [this]
  exact ⟨by simp, by rw [nthI_nat, List.getElem?_eq_getElem hj]⟩
theorem gFirst_ok (env : List GMember) (n : Str) (l : List GDir) (he : Sm env) (hl : Sm l) (hd : ∀ d ∈ l, Sm d.args) : collect_first env n l = some (gFirst env n l) := by
 apply collect_first_run
 obtain ⟨i, h1, h2⟩ := IndexDir_ok l n hl
 unfold collect_first_B gFirst
 simp only [h1, bnd_s]
 cases hf : l.find? (fun f => f.name == n) with
 | none => rw [hf] at h2; simp only at h2; rw [h2]; rfl
 | some d =>
  rw [hf] at h2
  obtain ⟨h3, h4⟩ := h2
  rw [h3, h4]
  simp only [cnd_t, bnd_s, gYes_ok env d he (hd d (List.mem_of_find?_eq_some hf))]
theorem gHolds_ok (env : List GMember) (l : List GDir) (he : Sm env) (hl : Sm l) (hd : ∀ d ∈ l, Sm d.args) : collect_Holds env l = some (gHolds env l) := by
 apply collect_Holds_run
 unfold collect_Holds_B gHolds
 simp only [gFirst_ok env _ l he hl hd, bnd_s]
 cases (gFirst env [115, 107, 105, 112] l).2 <;> cases (gFirst env [105, 110, 99, 108, 117, 100, 101] l).1 <;> rfl
theorem holds_nil_ok : collect_Holds_i1 = some true := by
 apply collect_Holds_i1_run
 unfold collect_Holds_i1_B
 simp only [gFirst_ok [] _ [] (by show 0 < _; omega) (by show 0 < _; omega) (by simp), bnd_s]
 rfl
open Go Go.Ev Go.RowKit
set_option maxHeartbeats 4000000 in
set_option maxRecDepth 100000 in
theorem f88_walk (k nm : ByteArray) (sv : Value) (kb : Nat) (w : World) (hk : w.cell? ⟨kb, 0, none⟩ = some (.string nm)) :
  Calls Try.prog 88 #[.agg #[.string k, sv], .pointer (some ⟨kb, 0, none⟩)] w fun e w' => e = .returned (.bool (k.toList == nm.toList)) ∧ w' = w.alloc (.cells #[.string k, sv] 50) := by
 have hk' : (w.alloc (.cells #[.string k, sv] 50)).cell? ⟨kb, 0, none⟩ = some (.string nm) := by
  have hlt : kb < w.heap.size := World.block_lt_of_cell? w ⟨kb, 0, none⟩ hk
  rw [World.cell?_of_block (heap_alloc_old w _ hlt)]; exact hk
 go_enter Try.func88, Try.ntmps88
 go_wp2
 go_ret
 exact ⟨rfl, rfl⟩
def idxOf : List (ByteArray × Value) → ByteArray → Int
 | [], _ => -1
 | g :: l, nm => if (g.1.toList == nm.toList) = true then 0 else if idxOf l nm = -1 then -1 else idxOf l nm + 1
theorem idxOf_found (nm : ByteArray) : ∀ (gs : List (ByteArray × Value)) (k : Nat) (g : ByteArray × Value), (∀ (j : Nat) (g : ByteArray × Value), j < k → gs[j]? = some g → (g.1.toList == nm.toList) = false) → gs[k]? = some g → (g.1.toList == nm.toList) = true → idxOf gs nm = k
 | [], k, g, _, h, _ => by simp at h
 | x :: l, 0, g, _, h, hb => by simp at h; subst h; simp [idxOf, hb]
 | x :: l, k + 1, g, hno, h, hb => by
  have h0 := hno 0 x (by omega) rfl
  have ih := idxOf_found nm l k g (fun j g hj hg => hno (j + 1) g (by omega) (by simpa using hg)) (by simpa using h) hb
  simp only [idxOf, h0, Bool.false_eq_true, if_false, ih]
  rw [if_neg (by omega)]; omega
theorem idxOf_none (nm : ByteArray) : ∀ (gs : List (ByteArray × Value)), (∀ (j : Nat) (g : ByteArray × Value), j < gs.length → gs[j]? = some g → (g.1.toList == nm.toList) = false) → idxOf gs nm = -1
 | [], _ => rfl
 | x :: l, hno => by
  have h0 := hno 0 x (by simp) rfl
  have ih := idxOf_none nm l (fun j g hj hg => hno (j + 1) g (by simpa using hj) (by simpa using hg))
  simp only [idxOf, h0, Bool.false_eq_true, if_false, ih, if_true]
set_option maxHeartbeats 4000000 in
set_option maxRecDepth 100000 in
theorem idx_walk (ob cap : Nat) (gs : List (ByteArray × Value)) (nm : ByteArray) (kb : Nat) (w : World) (hn : gs.length ≤ 1073741824) (hcap : gs.length ≤ cap)
  (hc : ∀ i k v, gs[i]? = some (k, v) → w.cell? ⟨ob, 2 * i, none⟩ = some (.string k) ∧ w.cell? ⟨ob, 2 * i + 1, none⟩ = some v) (hk : w.cell? ⟨kb, 0, none⟩ = some (.string nm)) :
  Calls Try.prog 87 #[.slice (some ⟨ob, 0, none⟩) gs.length cap, .func (.func 88) #[] #[.pointer (some ⟨kb, 0, none⟩)]] w fun e w' => Below w.heap.size w w' ∧ e = .returned (.int .i64 (idxOf gs nm)) := by
 obtain ⟨n, hln⟩ : ∃ n, gs.length = n := ⟨_, rfl⟩
 rw [hln] at hn hcap ⊢
 have hcells : ∀ (k : Nat) (wr : World), Below w.heap.size w wr → ∃ kk vv, k < n → gs[k]? = some (kk, vv) ∧ wr.cell? ⟨ob, k * 2, none⟩ = some (.string kk) ∧ wr.cell? ⟨ob, k * 2 + 1, none⟩ = some vv := by
  intro k wr hbel
  by_cases h : k < n
  ·have hg : gs[k]? = some (gs[k]'(by omega)) := List.getElem?_eq_getElem (by omega)
   obtain ⟨h1, h2⟩ := hc k _ _ hg
   rw [Nat.mul_comm] at h1 h2
   exact ⟨_, _, fun _ => ⟨hg, (hbel.cell (World.block_lt_of_cell? w _ h1)).trans h1, (hbel.cell (World.block_lt_of_cell? w _ h2)).trans h2⟩⟩
  ·exact ⟨ByteArray.empty, undef, fun h' => absurd h' h⟩
 have hcalls : ∀ (wr : World) kk vv, Below w.heap.size w wr → Calls Try.prog 88 #[.agg #[.string kk, vv], .pointer (some ⟨kb, 0, none⟩)] wr fun e w' => e = .returned (.bool (kk.toList == nm.toList)) ∧ w' = wr.alloc (.cells #[.string kk, vv] 50) :=
  fun wr kk vv hbel => f88_walk kk nm vv kb wr ((hbel.cell (World.block_lt_of_cell? w _ hk)).trans hk)
 clear hc hk
 go_enter Try.func87, Try.ntmps87
 go_wp2
 go_loopw [5, 8] (fun i5 t8 wr => ∃ k : Nat, k ≤ n ∧ t8 = .int .i64 k ∧ (∀ (j : Nat) (g : ByteArray × Value), j < k → gs[j]? = some g → (g.1.toList == nm.toList) = false) ∧ Below w.heap.size w wr) (fun _ t8 _ => n - (intOf t8).toNat)
 case atStart => exact ⟨0, Nat.zero_le _, rfl, fun j g hj => absurd hj (Nat.not_lt_zero _), Below.refl _ _⟩
 case round =>
  obtain ⟨k, hkn, rfl, hno, hbel⟩ := hrel
  obtain ⟨kk, vv, hkv⟩ := hcells k wr hbel
  have hc1 : k < n → wr.cell? ⟨ob, k * 2, none⟩ = some (.string kk) := fun h => (hkv h).2.1
  have hc2 : k < n → wr.cell? ⟨ob, k * 2 + 1, none⟩ = some vv := fun h => (hkv h).2.2
  have hcall := hcalls wr kk vv hbel
  clear hcells hcalls
  go_wp2_with (go_at_call 88; refine hcall.mono ?_; rintro e w2 ⟨rfl, rfl⟩)
  ·have hlt : k < n := by assumption
   have hb : (kk.toList == nm.toList) = true := by assumption
   go_ret
   exact ⟨hbel.alloc hbel.size _, by rw [idxOf_found nm gs k (kk, vv) hno (hkv hlt).1 hb]; rfl⟩
  ·have hlt : k < n := by assumption
   have hb : (kk.toList == nm.toList) = false := by assumption
   go_roundw
   case rel =>
    refine ⟨k + 1, by omega, by go_num, fun j g hj hg => ?_, hbel.alloc hbel.size _⟩
    rcases Nat.lt_or_ge j k with h | h
    ·exact hno j g h hg
    ·obtain rfl : j = k := by omega
     rw [(hkv hlt).1] at hg
     cases hg
     exact hb
   case measure => simp [intOf]; omega
  ·have hge : ¬ k < n := by assumption
   go_ret
   exact ⟨hbel, by rw [idxOf_none nm gs fun j g hj hg => hno j g (by omega) hg]; rfl⟩
set_option maxHeartbeats 4000000 in
set_option maxRecDepth 100000 in
theorem idx_walk0 (oa : Option Addr) (cap : Nat) (kb : Nat) (w : World) :
  Calls Try.prog 87 #[.slice oa 0 cap, .func (.func 88) #[] #[.pointer (some ⟨kb, 0, none⟩)]] w fun e w' => Below w.heap.size w w' ∧ e = .returned (.int .i64 (-1)) := by
 go_enter Try.func87, Try.ntmps87
 go_wp2
 refine wp_loop_rounds 1 ?_; rw [rounds_succ]; go_wp2
 go_ret
 exact ⟨Below.refl _ _, rfl⟩
set_option maxHeartbeats 4000000 in
set_option maxRecDepth 100000 in
theorem key_walk (x : GSel) (c3 c4 c6 : Value) (w : World) :
  Calls Try.prog 21 #[.agg #[.int .i64 x.kind, .string ⟨x.alias.toArray⟩, .string ⟨x.name.toArray⟩, c3, c4, .string ⟨x.on_.toArray⟩, c6]] w fun e w' => Below w.heap.size w w' ∧ e = .returned (.string ⟨(gKey x).toArray⟩) := by
 go_enter Try.func21, Try.ntmps21
 go_wp2
 ·have h1 : (x.kind != 0) = true := by assumption
  go_ret
  exact ⟨(Below.refl _ _).alloc (Nat.le_refl _) _, by unfold gKey; rw [h1]; rfl⟩
 ·have h1 : (x.kind != 0) = false := by assumption
  have h2 : (!List.isEmpty x.alias) = true := by assumption
  go_ret
  refine ⟨(Below.refl _ _).alloc (Nat.le_refl _) _, ?_⟩
  have h3 : (!(x.alias == [])) = true := by cases hx : x.alias <;> simp_all
  unfold gKey; rw [h1, h3]; rfl
 ·have h1 : (x.kind != 0) = false := by assumption
  have h2 : (!List.isEmpty x.alias) = false := by assumption
  go_ret
  refine ⟨(Below.refl _ _).alloc (Nat.le_refl _) _, ?_⟩
  have h3 : (!(x.alias == [])) = false := by cases hx : x.alias <;> simp_all
  unfold gKey; rw [h1, h3]; rfl
theorem Try.info50 : (Try.prog.info? 50).map (fun i => (i.zero, i.size, i.bytes)) = some (some (.agg #[.string ByteArray.empty, .slice none 0 0]), 2, 40) := by kernel_rfl
theorem Try.info41 : (Try.prog.info? 41).map (fun i => (i.zero, i.size, i.bytes)) = some (some (.agg #[.int .i64 0, .string ByteArray.empty, .string ByteArray.empty, .slice none 0 0, .slice none 0 0, .string ByteArray.empty, .slice none 0 0]), 7, 128) := by kernel_rfl
abbrev xCells (x : GSel) (c3 c4 c6 : Value) : List Value := [.int .i64 x.kind, .string ⟨x.alias.toArray⟩, .string ⟨x.name.toArray⟩, c3, c4, .string ⟨x.on_.toArray⟩, c6]
def XAt (w : World) (b : Nat) (x : GSel) (c3 c4 c6 : Value) : Prop :=
 w.heap[b]? = some (.cells #[.int .i64 x.kind, .string ⟨x.alias.toArray⟩, .string ⟨x.name.toArray⟩, c3, c4, .string ⟨x.on_.toArray⟩, c6] 41 (0, 0))
theorem XAt.cells {w : World} {b : Nat} {x : GSel} {c3 c4 c6 : Value} (h : XAt w b x c3 c4 c6) :
  w.cell? ⟨b, 0, none⟩ = some (.int .i64 x.kind) ∧ w.cell? ⟨b, 1, none⟩ = some (.string ⟨x.alias.toArray⟩) ∧ w.cell? ⟨b, 2, none⟩ = some (.string ⟨x.name.toArray⟩) ∧ w.cell? ⟨b, 3, none⟩ = some c3 ∧ w.cell? ⟨b, 4, none⟩ = some c4 ∧ w.cell? ⟨b, 5, none⟩ = some (.string ⟨x.on_.toArray⟩) ∧ w.cell? ⟨b, 6, none⟩ = some c6 := by
 unfold XAt at h
 refine ⟨?_, ?_, ?_, ?_, ?_, ?_, ?_⟩ <;> (rw [cell_of_row w b _ _ _ _ h]; rfl)
theorem cell_al {w : World} {a : Addr} {v : Value} (o : Obj) (h : w.cell? a = some v) : (w.alloc o).cell? a = some v := by
 rw [World.cell?_of_block (heap_alloc_old w o (World.block_lt_of_cell? w a h))]; exact h
theorem frz_al {w : World} {a : Addr} (o : Obj) (hlt : a.block < w.heap.size) (h : w.frozen? a = false) : (w.alloc o).frozen? a = false := by
 rw [World.frozen?_of_block (heap_alloc_old w o hlt)]; exact h
theorem heap_al {w : World} {b : Nat} {p : Obj} (o : Obj) (h : w.heap[b]? = some p) : (w.alloc o).heap[b]? = some p := by
 rw [heap_alloc_old w o (lt_of_block h)]; exact h
def flatG : List (ByteArray × Value) → List Value
 | [] => []
 | g :: l => .string g.1 :: g.2 :: flatG l
theorem flatG_len : ∀ gs : List (ByteArray × Value), (flatG gs).length = gs.length * 2
 | [] => rfl
 | g :: l => by simp only [flatG, List.length_cons, flatG_len l]; omega
theorem flatG_at : ∀ (gs : List (ByteArray × Value)) (i : Nat) (k : ByteArray) (v : Value), gs[i]? = some (k, v) → (flatG gs)[2 * i]? = some (.string k) ∧ (flatG gs)[2 * i + 1]? = some v
 | [], i, k, v, h => by simp at h
 | g :: l, 0, k, v, h => by simp at h; subst h; exact ⟨rfl, rfl⟩
 | g :: l, i + 1, k, v, h => by
  have := flatG_at l i k v (by simpa using h)
  simp only [flatG, show 2 * (i + 1) = 2 * i + 1 + 1 by omega, show 2 * i + 1 + 1 + 1 = (2 * i + 1) + 1 + 1 by omega, List.getElem?_cons_succ]
  exact this
theorem flatG_app (gs : List (ByteArray × Value)) (k : ByteArray) (v : Value) : flatG (gs ++ [(k, v)]) = flatG gs ++ [.string k, v] := by
 induction gs with
 | nil => rfl
 | cons g l ih => simp only [List.cons_append, flatG, ih]
theorem own_cell {w : World} {B e size n cap : Nat} {oa : Option Addr} {xs : List Value} (h : w.ownsRow B e size (.slice oa n cap) n xs) {j : Nat} {u : Value} (hj : xs[j]? = some u) : ∃ g, oa = some ⟨g, 0, none⟩ ∧ B ≤ g ∧ w.cell? ⟨g, j, none⟩ = some u ∧ w.frozen? ⟨g, j, none⟩ = false := by
 rcases h.2 with ⟨hv, hn⟩ | ⟨g, cap', cur, hv, hB, hg, _, _, _, ht⟩
 ·have h1 := h.1
  have h2 := (List.getElem?_eq_some_iff.1 hj).1
  rw [hn, Nat.zero_mul] at h1
  omega
 ·cases hv
  refine ⟨g, rfl, hB, ?_, by simp [World.frozen?, hg]⟩
  have := h.cells (g := g) rfl j u hj
  rwa [show (⟨g, 0, none⟩ : Addr).add j = ⟨g, j, none⟩ by unfold Addr.add; split <;> simp_all] at this
theorem idx_any (B n cap : Nat) (oa : Option Addr) (gs : List (ByteArray × Value)) (nm : ByteArray) (kb : Nat) (w : World) (hn : n ≤ 1073741824) (hown : w.ownsRow B 50 2 (.slice oa n cap) n (flatG gs)) (hk : w.cell? ⟨kb, 0, none⟩ = some (.string nm)) :
  Calls Try.prog 87 #[.slice oa n cap, .func (.func 88) #[] #[.pointer (some ⟨kb, 0, none⟩)]] w fun e w' => Below w.heap.size w w' ∧ e = .returned (.int .i64 (idxOf gs nm)) := by
 have hl : gs.length = n := by have := hown.1; rw [flatG_len] at this; omega
 cases gs with
 | nil => simp at hl; subst hl; exact idx_walk0 oa cap kb w
 | cons g0 gs0 =>
  obtain ⟨g, e1, _, _, _⟩ := own_cell hown (j := 0) (u := .string g0.1) rfl
  subst e1
  have hcap : n ≤ cap := by
   rcases hown.2 with ⟨hv, _⟩ | ⟨g, cap', cur, hv, _, _, hc, _⟩
   ·simp at hv
   ·cases hv; exact hc
  subst hl
  exact idx_walk g cap (g0 :: gs0) nm kb w hn hcap (fun i k v hi => by
   obtain ⟨h1, h2⟩ := flatG_at _ i k v hi
   obtain ⟨g', e', _, h3, _⟩ := own_cell hown h1
   obtain ⟨g'', e'', _, h4, _⟩ := own_cell hown h2
   cases e'; cases e''
   exact ⟨h3, h4⟩) hk
structure FTail (B : Nat) (w4 : World) (g idx : Nat) (sv : Value) (m : Nat) (ys : List Value) (x : GSel) (c3 c4 c6 : Value) (w' : World) (g2 cap2 : Nat) : Prop where
 own : w'.ownsRow B 41 7 (.slice (some ⟨g2, 0, none⟩) (m + 1) cap2) (m + 1) (ys ++ xCells x c3 c4 c6)
 new : sv.ownBlock = some g2 ∨ w4.heap.size ≤ g2
 row : w'.heap[g]? = (w4.setCell ⟨g, idx * 2 + 1, none⟩ (.slice (some ⟨g2, 0, none⟩) (m + 1) cap2)).heap[g]?
 old : ∀ k, k < w4.heap.size → k ≠ g → some k ≠ sv.ownBlock → w'.heap[k]? = w4.heap[k]?
 size : w4.heap.size ≤ w'.heap.size
 os : w'.os = w4.os
 tape : w'.tape = w4.tape
 output : w'.output = w4.output
theorem ftail_plain {B : Nat} {w4 wb w5 : World} {g idx m g2 cap2 : Nat} {sv : Value} {ys : List Value} {x : GSel} {c3 c4 c6 : Value} (hwb : Below w4.heap.size w4 wb) (hB : B ≤ w4.heap.size)
  (hown : w5.ownsRow B 41 7 (.slice (some ⟨g2, 0, none⟩) (m + 1) cap2) (m + 1) (ys ++ xCells x c3 c4 c6)) (hgrow : wb.grownBy w5 sv.ownBlock) (hat : sv.ownBlock = some g2 ∨ g2 = wb.heap.size) (hg : g < w4.heap.size) (hsv : ∀ k, sv.ownBlock = some k → k ≠ g) :
  FTail B w4 g idx sv m ys x c3 c4 c6 (w5.setCell ⟨g, idx * 2 + 1, none⟩ (.slice (some ⟨g2, 0, none⟩) (m + 1) cap2)) g2 cap2 := by
 have hne : g2 ≠ g := by
  rcases hat with h | h
  ·exact hsv _ h
  ·have := hwb.size; omega
 have hg5 : w5.heap[g]? = w4.heap[g]? := (hgrow.block g (Nat.lt_of_lt_of_le hg hwb.size) (fun e => hsv g e.symm rfl)).trans (hwb.block g hg)
 refine ⟨ownsRow_setCell_other hown (by simpa [Value.ownBlock] using hne) _, ?_, ?_, ?_, ?_, hgrow.os.trans hwb.os, hgrow.tape.trans hwb.tape, hgrow.output.trans hwb.output⟩
 ·rcases hat with h | h
  ·exact .inl h
  ·exact .inr (by have := hwb.size; omega)
 ·simp only [World.setCell, Array.getElem?_modify, hg5]
 ·intro k hk hkg hks
  rw [Below.heap_setCell _ _ _ _ hkg, hgrow.block k (Nat.lt_of_lt_of_le hk hwb.size) hks, hwb.block k hk]
 ·have := hwb.size
  have := hgrow.size
  simp [World.setCell]; omega
theorem own_setCell {w : World} {B e size g n cap : Nat} {xs : List Value} (h : w.ownsRow B e size (.slice (some ⟨g, 0, none⟩) n cap) n xs) (j : Nat) (v : Value) (hj : j < xs.length) :
  (w.setCell ⟨g, j, none⟩ v).ownsRow B e size (.slice (some ⟨g, 0, none⟩) n cap) n (xs.set j v) := by
 refine ⟨by rw [List.length_set]; exact h.1, ?_⟩
 rcases h.2 with ⟨hv, _⟩ | ⟨g', cap', cur, hv, hb, hg, hnc, hcm, hcs, ht⟩
 ·simp at hv
 ·cases hv
  refine .inr ⟨g, cap, cur.setIfInBounds j v, rfl, hb, ?_, hnc, hcm, by rw [Array.size_setIfInBounds]; exact hcs, ?_⟩
  ·simp [World.setCell, Array.getElem?_modify, hg]
  ·rw [Array.toList_setIfInBounds, List.take_set, ht]
theorem set7 {ys : List Value} {m : Nat} (hy : ys.length = m * 7) (l : List Value) (j : Nat) (v : Value) : (ys ++ l).set (m * 7 + j) v = ys ++ l.set j v := by
 rw [List.set_append_right _ _ (by omega), hy, show m * 7 + j - m * 7 = j by omega]
theorem ftail_zero {B : Nat} {w4 wb w5 : World} {g idx m g2 cap2 : Nat} {sv : Value} {ys : List Value} {x : GSel} {c3 c4 c6 : Value} {z0 z1 z2 z3 z4 z5 z6 : Value} (hwb : Below w4.heap.size w4 wb) (hB : B ≤ w4.heap.size) (hy : ys.length = m * 7)
  (hown : w5.ownsRow B 41 7 (.slice (some ⟨g2, 0, none⟩) (m + 1) cap2) (m + 1) (ys ++ [z0, z1, z2, z3, z4, z5, z6])) (hgrow : wb.grownBy w5 sv.ownBlock) (hat : sv.ownBlock = some g2 ∨ g2 = wb.heap.size) (hg : g < w4.heap.size) (hsv : ∀ k, sv.ownBlock = some k → k ≠ g) {w6 : World}
  (hw6 : w6 = w5.setCell ⟨g, idx * 2 + 1, none⟩ (.slice (some ⟨g2, 0, none⟩) (m + 1) cap2)) :
  FTail B w4 g idx sv m ys x c3 c4 c6 (((((((w6.setCell ⟨g2, m * 7, none⟩ (.int .i64 x.kind)).setCell ⟨g2, m * 7 + 1, none⟩ (.string ⟨x.alias.toArray⟩)).setCell ⟨g2, m * 7 + 2, none⟩ (.string ⟨x.name.toArray⟩)).setCell ⟨g2, m * 7 + 3, none⟩ c3).setCell ⟨g2, m * 7 + 4, none⟩ c4).setCell ⟨g2, m * 7 + 5, none⟩ (.string ⟨x.on_.toArray⟩)).setCell ⟨g2, m * 7 + 6, none⟩ c6) g2 cap2 := by
 subst hw6
 have hne : g2 ≠ g := by
  rcases hat with h | h
  ·exact hsv _ h
  ·have := hwb.size; omega
 have hg5 : w5.heap[g]? = w4.heap[g]? := (hgrow.block g (Nat.lt_of_lt_of_le hg hwb.size) (fun e => hsv g e.symm rfl)).trans (hwb.block g hg)
 have own6 := ownsRow_setCell_other hown (a := ⟨g, idx * 2 + 1, none⟩) (by simpa [Value.ownBlock] using hne) (.slice (some ⟨g2, 0, none⟩) (m + 1) cap2)
 have hs : ∀ (w : World) (j : Nat) (v : Value) k, k ≠ g2 → (w.setCell ⟨g2, j, none⟩ v).heap[k]? = w.heap[k]? := fun w j v k hk => Below.heap_setCell _ _ _ _ hk
 have hz : ∀ (w : World) (a : Addr) (v : Value), (w.setCell a v).heap.size = w.heap.size := fun w a v => by simp [World.setCell]
 have a0 := own_setCell own6 (m * 7 + 0) (.int .i64 x.kind) (by simp; omega)
 simp only [set7 hy, List.set_cons_zero, List.set_cons_succ] at a0
 have a1 := own_setCell a0 (m * 7 + 1) (.string ⟨x.alias.toArray⟩) (by simp; omega)
 simp only [set7 hy, List.set_cons_zero, List.set_cons_succ] at a1
 have a2 := own_setCell a1 (m * 7 + 2) (.string ⟨x.name.toArray⟩) (by simp; omega)
 simp only [set7 hy, List.set_cons_zero, List.set_cons_succ] at a2
 have a3 := own_setCell a2 (m * 7 + 3) c3 (by simp; omega)
 simp only [set7 hy, List.set_cons_zero, List.set_cons_succ] at a3
 have a4 := own_setCell a3 (m * 7 + 4) c4 (by simp; omega)
 simp only [set7 hy, List.set_cons_zero, List.set_cons_succ] at a4
 have a5 := own_setCell a4 (m * 7 + 5) (.string ⟨x.on_.toArray⟩) (by simp; omega)
 simp only [set7 hy, List.set_cons_zero, List.set_cons_succ] at a5
 have a6 := own_setCell a5 (m * 7 + 6) c6 (by simp; omega)
 simp only [set7 hy, List.set_cons_zero, List.set_cons_succ] at a6
 have ho : ∀ (w : World) (a : Addr) (v : Value), (w.setCell a v).os = w.os ∧ (w.setCell a v).tape = w.tape ∧ (w.setCell a v).output = w.output := fun _ _ _ => ⟨rfl, rfl, rfl⟩
 refine ⟨by simpa only [Nat.add_zero] using a6, ?_, ?_, ?_, ?_, by simp only [(ho _ _ _).1]; exact hgrow.os.trans hwb.os, by simp only [(ho _ _ _).2.1]; exact hgrow.tape.trans hwb.tape, by simp only [(ho _ _ _).2.2]; exact hgrow.output.trans hwb.output⟩
 ·rcases hat with h | h
  ·exact .inl h
  ·exact .inr (by have := hwb.size; omega)
 ·rw [hs _ _ _ _ hne.symm, hs _ _ _ _ hne.symm, hs _ _ _ _ hne.symm, hs _ _ _ _ hne.symm, hs _ _ _ _ hne.symm, hs _ _ _ _ hne.symm, hs _ _ _ _ hne.symm]
  simp only [World.setCell, Array.getElem?_modify, hg5]
 ·intro k hk hkg hks
  have hk2 : k ≠ g2 := by
   rintro rfl
   rcases hat with h | h
   ·exact hks h.symm
   ·have := hwb.size; omega
  rw [hs _ _ _ _ hk2, hs _ _ _ _ hk2, hs _ _ _ _ hk2, hs _ _ _ _ hk2, hs _ _ _ _ hk2, hs _ _ _ _ hk2, hs _ _ _ _ hk2, Below.heap_setCell _ _ _ _ hkg, hgrow.block k (Nat.lt_of_lt_of_le hk hwb.size) hks, hwb.block k hk]
 ·have := hwb.size
  have := hgrow.size
  simp only [hz]; omega
def dropSeq : Nat → Code → Code
 | 0, c => c
 | n + 1, .seq _ b => dropSeq n b
 | _ + 1, c => c
noncomputable def tail69 : Code := match Try.f69.body with | some c => dropSeq 4 c | none => .skip
noncomputable def fstC : Code → Code | .seq a _ => a | c => c
noncomputable def sndC : Code → Code | .seq _ b => b | c => c
noncomputable def reg69 : Code := fstC tail69
noncomputable def cond69 : Code := sndC tail69
set_option maxHeartbeats 8000000 in
set_option maxRecDepth 100000 in
theorem reg_walk (Q : Ending → World → Prop) (B n cap idx m : Nat) (oa2 : Option Addr) (cap1 : Nat) (ys : List Value) (x : GSel) (c3 c4 c6 : Value) (ga g xb : Nat) (w4 : World) (hB4 : B ≤ w4.heap.size) (hm : m ≤ 1073741824) (hin : (idx : Int) < (n : Int))
  (hs3 : ∃ a l k, c3 = .slice a l k) (hs4 : ∃ a l k, c4 = .slice a l k) (hs6 : ∃ a l k, c6 = .slice a l k)
  (h4o : w4.cell? ⟨ga, 7, none⟩ = some (.slice (some ⟨g, 0, none⟩) n cap)) (h41 : w4.cell? ⟨g, idx * 2 + 1, none⟩ = some (.slice oa2 m cap1)) (h4f : w4.frozen? ⟨g, idx * 2 + 1, none⟩ = false)
  (hx4 : XAt w4 xb x c3 c4 c6) (hsv : w4.ownsRow B 41 7 (.slice oa2 m cap1) m ys) (hsvg : ∀ k, (Value.slice oa2 m cap1).ownBlock = some k → k ≠ g ∧ k ≠ ga ∧ k ≠ xb)
  (hQ : ∀ w' g2 cap2, FTail B w4 g idx (.slice oa2 m cap1) m ys x c3 c4 c6 w' g2 cap2 → Q (.returned (.tuple #[])) w')
  (u1 u2 u4 u6 u7 u8 u9 u10 u11 u12 u13 u14 u15 u16 u17 u18 u19 u20 u21 u22 u23 u24 u25 u26 u27 u28 u29 u30 u31 u32 u33 u34 u35 u36 u37 u38 u39 u40 u41 u42 u43 u44 u45 u46 u47 u48 u49 u50 u51 u52 u53 u54 u55 u56 u57 u58 u59 u60 u61 u62 u63 u64 u65 u66 : Value) (K : Act → World → Prop) (hK : ∀ a w, Code.wp Try.prog cond69 (bodyPost Try.prog Try.f69 Q) a w → K a w) :
  Code.wp Try.prog reg69 (Exit.then K (bodyPost Try.prog Try.f69 Q)) ⟨#[.pointer (some ⟨ga, 0, none⟩), u1, u2, .pointer (some ⟨xb, 0, none⟩), u4, .int .i64 idx, u6, u7, u8, u9, u10, u11, u12, u13, u14, u15, u16, u17, u18, u19, u20, u21, u22, u23, u24, u25, u26, u27, u28, u29, u30, u31, u32, u33, u34, u35, u36, u37, u38, u39, u40, u41, u42, u43, u44, u45, u46, u47, u48, u49, u50, u51, u52, u53, u54, u55, u56, u57, u58, u59, u60, u61, u62, u63, u64, u65, u66], []⟩ w4 := by
 obtain ⟨a3, l3, p3, rfl⟩ := hs3
 obtain ⟨a4, l4, p4, rfl⟩ := hs4
 obtain ⟨a6, l6, p6, rfl⟩ := hs6
 have h1c : ∀ u ∈ xCells x (.slice a3 l3 p3) (.slice a4 l4 p4) (.slice a6 l6 p6), u.oneCell' = true := by
  intro u hu
  simp only [List.mem_cons, List.not_mem_nil, or_false] at hu
  rcases hu with rfl | rfl | rfl | rfl | rfl | rfl | rfl <;> rfl
 obtain ⟨i1, gi, gz0, gz1, gz2⟩ := info_parts Try.info41
 have hg4 : g < w4.heap.size := World.block_lt_of_cell? w4 _ h41
 have hga4 : ga < w4.heap.size := World.block_lt_of_cell? w4 _ h4o
 have hx4l : xb < w4.heap.size := lt_of_block hx4
 obtain ⟨q0, q1, q2, q3, q4, q5, q6⟩ := hx4.cells
 have hnew4 : ∀ (b : Value) (zs : Array Value), ∀ j u, zs.toList[j]? = some u → ((w4.alloc (.cells #[b] 4)).alloc (.cells zs 41)).cell? ((⟨w4.heap.size + 1, 0, none⟩ : Addr).add j) = some u := by
  intro b zs
  have := World.news_of_block (cs := zs) (heap_alloc_new (w4.alloc (.cells #[b] 4)) (.cells zs 41))
  have e : (w4.alloc (.cells #[b] 4)).heap.size = w4.heap.size + 1 := by simp
  rw [e] at this; exact this
 have hB6 : ∀ o p : Obj, B ≤ ((w4.alloc o).alloc p).heap.size := fun o p => by simp; omega
 have hbelow : ∀ o p : Obj, Below w4.heap.size w4 (((w4.alloc o).alloc p).drew.drew) := fun o p => (((Below.refl _ _).alloc (Nat.le_refl _) o).alloc (by simp) p).drew.drew
 have hz1c : ∀ u ∈ ([.int .i64 0, .string ByteArray.empty, .string ByteArray.empty, .slice none 0 0, .slice none 0 0, .string ByteArray.empty, .slice none 0 0] : List Value), u.oneCell' = true := by
  intro u hu
  simp only [List.mem_cons, List.not_mem_nil, or_false] at hu
  rcases hu with rfl | rfl | rfl | rfl | rfl | rfl | rfl <;> rfl
 have hown6 : ∀ o p : Obj, ((w4.alloc o).alloc p).ownsRow B 41 7 (.slice oa2 m cap1) m ys := fun o p => (hsv.alloc o).alloc p
 -- what stays behind the append
 have keep5 : ∀ (o p : Obj) (w5 : World), ((w4.alloc o).alloc p).drew.drew.grownBy w5 (Value.slice oa2 m cap1).ownBlock →
   w5.cell? ⟨ga, 7, none⟩ = some (.slice (some ⟨g, 0, none⟩) n cap) ∧ w5.cell? ⟨g, idx * 2 + 1, none⟩ = some (.slice oa2 m cap1) ∧ w5.frozen? ⟨g, idx * 2 + 1, none⟩ = false := by
  intro o p w5 hg5
  have s1 : ∀ k, k < w4.heap.size → k < ((w4.alloc o).alloc p).heap.size := fun k hk => by simp; omega
  have e1 := hg5.block ga (s1 ga hga4) (fun e => (hsvg ga e.symm).2.1 rfl)
  have e2 := hg5.block g (s1 g hg4) (fun e => (hsvg g e.symm).1 rfl)
  exact ⟨(World.cell?_of_block e1).trans (cell_al _ (cell_al _ h4o)), (World.cell?_of_block e2).trans (cell_al _ (cell_al _ h41)), (World.frozen?_of_block e2).trans (frz_al _ (by simp; omega) (frz_al _ hg4 h4f))⟩
 obtain ⟨fn, hfn⟩ : ∃ fn, fn = Try.f69 := ⟨_, rfl⟩
 have hres : ∀ (a : Act) (w : World), (results fn a.tmps).run Try.prog w = .ok (.tuple #[]) w := by exact fun a w => results_none (by rw [hfn]; rfl) _ _ _
 rw [← hfn] at hK ⊢
 clear hfn
 unfold cond69 tail69 at hK
 unfold reg69 tail69
 simp only [Try.f69, dropSeq, fstC, sndC] at hK ⊢
 go_region
 ·go_wp2
  go_region_law (refine step_append_lies _ rfl (.tmp 61) (.tmp 63) 30 rfl B 41 i1 _ 7 128 Try.underlying30 gi gz0 gz1 gz2 rfl (by decide) (.slice oa2 m cap1) m ys rfl (hown6 _ _) ⟨w4.heap.size + 1, 0, none⟩ 1 1 (xCells x (.slice a3 l3 p3) (.slice a4 l4 p4) (.slice a6 l6 p6)) rfl rfl (hnew4 _ #[.int .i64 x.kind, .string ⟨x.alias.toArray⟩, .string ⟨x.name.toArray⟩, .slice a3 l3 p3, .slice a4 l4 p4, .string ⟨x.on_.toArray⟩, .slice a6 l6 p6]) h1c (by decide) (by unfold maxLen; omega) (by omega) (hB6 _ _) _ rfl ?_; intro g2 cap2 w5 hown5 hgrow5 hat5 hlt5; obtain ⟨k1, k2, k3⟩ := keep5 _ _ w5 hgrow5)
  all_goals exact bodyPost_end (hres _ _) rfl (hQ _ _ _ (ftail_plain (hbelow _ _) hB4 hown5 hgrow5 hat5 hg4 (fun k hk => (hsvg k hk).1)))
 ·have hmm : (m : Int) < (m : Int) + 1 := by omega
  have hyl : ys.length = m * 7 := hsv.1
  go_wp2
  go_region_law (refine step_append_lies _ rfl (.tmp 41) (.tmp 44) 30 rfl B 41 i1 _ 7 128 Try.underlying30 gi gz0 gz1 gz2 rfl (by decide) (.slice oa2 m cap1) m ys rfl (hown6 _ _) ⟨w4.heap.size + 1, 0, none⟩ 1 1 [.int .i64 0, .string ByteArray.empty, .string ByteArray.empty, .slice none 0 0, .slice none 0 0, .string ByteArray.empty, .slice none 0 0] rfl rfl (hnew4 _ #[.int .i64 0, .string ByteArray.empty, .string ByteArray.empty, .slice none 0 0, .slice none 0 0, .string ByteArray.empty, .slice none 0 0]) hz1c (by decide) (by unfold maxLen; omega) (by omega) (hB6 _ _) _ rfl ?_; intro g2 cap2 w5 hown5 hgrow5 hat5 hlt5; obtain ⟨k1, k2, k3⟩ := keep5 _ _ w5 hgrow5)
  all_goals
   have hne2 : g2 ≠ g := by
    rcases hat5 with h | h
    ·exact (hsvg _ h).1
    ·have h' : g2 = ((w4.alloc (.cells #[.bool true] 4)).alloc (.cells #[.int .i64 0, .string ByteArray.empty, .string ByteArray.empty, .slice none 0 0, .slice none 0 0, .string ByteArray.empty, .slice none 0 0] 41)).heap.size := h
     simp at h'; omega
   have own6 := ownsRow_setCell_other hown5 (a := ⟨g, idx * 2 + 1, none⟩) (by simpa [Value.ownBlock] using hne2) (.slice (some ⟨g2, 0, none⟩) (m + 1) cap2)
   obtain ⟨w6, hw6⟩ : ∃ w6, w6 = w5.setCell ⟨g, idx * 2 + 1, none⟩ (.slice (some ⟨g2, 0, none⟩) (m + 1) cap2) := ⟨_, rfl⟩
   rw [← hw6] at own6 ⊢
   replace hw6 : Hid (w6 = w5.setCell ⟨g, idx * 2 + 1, none⟩ (.slice (some ⟨g2, 0, none⟩) (m + 1) cap2)) := hw6
   have zc : ∀ (j : Nat) (v : Value), ([.int .i64 0, .string ByteArray.empty, .string ByteArray.empty, .slice none 0 0, .slice none 0 0, .string ByteArray.empty, .slice none 0 0] : List Value)[j]? = some v → w6.cell? ⟨g2, m * 7 + j, none⟩ = some v ∧ w6.frozen? ⟨g2, m * 7 + j, none⟩ = false := by
    intro j v hj
    obtain ⟨g', e, _, h1, h2⟩ := own_cell own6 (j := m * 7 + j) (u := v) (by rw [List.getElem?_append_right (by omega), hyl, show m * 7 + j - m * 7 = j by omega]; exact hj)
    cases e
    exact ⟨h1, h2⟩
   obtain ⟨z0, f0⟩ := zc 0 _ rfl
   obtain ⟨z1, f1⟩ := zc 1 _ rfl
   obtain ⟨z2, f2⟩ := zc 2 _ rfl
   obtain ⟨z3, f3⟩ := zc 3 _ rfl
   obtain ⟨z4, f4⟩ := zc 4 _ rfl
   obtain ⟨z5, f5⟩ := zc 5 _ rfl
   obtain ⟨z6, f6⟩ := zc 6 _ rfl
   simp only [Nat.add_zero] at z0 f0
   clear zc k1 k2 k3
   go_wp2
   exact bodyPost_end (hres _ _) rfl (hQ _ _ _ (ftail_zero (hbelow _ _) hB4 hyl hown5 hgrow5 hat5 hg4 (fun k hk => (hsvg k hk).1) hw6.out))
theorem tail69_eq : tail69 = .seq reg69 cond69 := by kernel_rfl
theorem tail_walk (Q : Ending → World → Prop) (B n cap idx m : Nat) (oa2 : Option Addr) (cap1 : Nat) (ys : List Value) (x : GSel) (c3 c4 c6 : Value) (ga g xb : Nat) (w4 : World) (hB4 : B ≤ w4.heap.size) (hm : m ≤ 1073741824) (hin : (idx : Int) < (n : Int))
  (hs3 : ∃ a l k, c3 = .slice a l k) (hs4 : ∃ a l k, c4 = .slice a l k) (hs6 : ∃ a l k, c6 = .slice a l k)
  (h4o : w4.cell? ⟨ga, 7, none⟩ = some (.slice (some ⟨g, 0, none⟩) n cap)) (h41 : w4.cell? ⟨g, idx * 2 + 1, none⟩ = some (.slice oa2 m cap1)) (h4f : w4.frozen? ⟨g, idx * 2 + 1, none⟩ = false)
  (hx4 : XAt w4 xb x c3 c4 c6) (hsv : w4.ownsRow B 41 7 (.slice oa2 m cap1) m ys) (hsvg : ∀ k, (Value.slice oa2 m cap1).ownBlock = some k → k ≠ g ∧ k ≠ ga ∧ k ≠ xb)
  (hQ : ∀ w' g2 cap2, FTail B w4 g idx (.slice oa2 m cap1) m ys x c3 c4 c6 w' g2 cap2 → Q (.returned (.tuple #[])) w')
  (u1 u2 u4 u6 u7 u8 u9 u10 u11 u12 u13 u14 u15 u16 u17 u18 u19 u20 u21 u22 u23 u24 u25 u26 u27 u28 u29 u30 u31 u32 u33 u34 u35 u36 u37 u38 u39 u40 u41 u42 u43 u44 u45 u46 u47 u48 u49 u50 u51 u52 u53 u54 u55 u56 u57 u58 u59 u60 u61 u62 u63 u64 u65 u66 : Value) :
  Code.wp Try.prog tail69 (bodyPost Try.prog Try.f69 Q) ⟨#[.pointer (some ⟨ga, 0, none⟩), u1, u2, .pointer (some ⟨xb, 0, none⟩), u4, .int .i64 idx, u6, u7, u8, u9, u10, u11, u12, u13, u14, u15, u16, u17, u18, u19, u20, u21, u22, u23, u24, u25, u26, u27, u28, u29, u30, u31, u32, u33, u34, u35, u36, u37, u38, u39, u40, u41, u42, u43, u44, u45, u46, u47, u48, u49, u50, u51, u52, u53, u54, u55, u56, u57, u58, u59, u60, u61, u62, u63, u64, u65, u66], []⟩ w4 := by
 rw [tail69_eq]
 exact wp_seq_k fun K hK => reg_walk Q B n cap idx m oa2 cap1 ys x c3 c4 c6 ga g xb w4 hB4 hm hin hs3 hs4 hs6 h4o h41 h4f hx4 hsv hsvg hQ u1 u2 u4 u6 u7 u8 u9 u10 u11 u12 u13 u14 u15 u16 u17 u18 u19 u20 u21 u22 u23 u24 u25 u26 u27 u28 u29 u30 u31 u32 u33 u34 u35 u36 u37 u38 u39 u40 u41 u42 u43 u44 u45 u46 u47 u48 u49 u50 u51 u52 u53 u54 u55 u56 u57 u58 u59 u60 u61 u62 u63 u64 u65 u66 K hK
def FNew (B n cap : Nat) (oa : Option Addr) (gs : List (ByteArray × Value)) (x : GSel) (c3 c4 c6 : Value) (ga : Nat) (w w' : World) : Prop :=
 ∃ (w3 : World) (g cap3 g2 cap2 : Nat), w3.ownsRow B 50 2 (.slice (some ⟨g, 0, none⟩) (n + 1) cap3) (n + 1) (flatG gs ++ [.string ⟨(gKey x).toArray⟩, .slice none 0 0]) ∧ ((Value.slice oa n cap).ownBlock = some g ∨ w.heap.size ≤ g) ∧ g < w3.heap.size ∧
 w.heap.size ≤ w3.heap.size ∧ w3.os = w.os ∧ w3.tape = w.tape ∧ w3.output = w.output ∧ (∀ k, k < w.heap.size → some k ≠ (Value.slice oa n cap).ownBlock → w3.heap[k]? = w.heap[k]?) ∧
 FTail B (w3.setCell ⟨ga, 7, none⟩ (.slice (some ⟨g, 0, none⟩) (n + 1) cap3)) g n (.slice none 0 0) 0 [] x c3 c4 c6 w' g2 cap2
set_option maxHeartbeats 8000000 in
set_option maxRecDepth 100000 in
theorem field_new (B n cap : Nat) (oa : Option Addr) (gs : List (ByteArray × Value)) (x : GSel) (c3 c4 c6 : Value) (ga : Nat) (h0 h1 h2 h3 h4 h5 h6 h8 : Value) (w : World) (hB : B ≤ w.heap.size) (hn : n ≤ 1073741824)
  (hs3 : ∃ a l k, c3 = .slice a l k) (hs4 : ∃ a l k, c4 = .slice a l k) (hs6 : ∃ a l k, c6 = .slice a l k)
  (hout : w.ownsRow B 50 2 (.slice oa n cap) n (flatG gs)) (hoga : ∀ k, (Value.slice oa n cap).ownBlock = some k → k ≠ ga) (hidx : idxOf gs ⟨(gKey x).toArray⟩ = -1)
  (hga : w.heap[ga]? = some (.cells #[h0, h1, h2, h3, h4, h5, h6, .slice oa n cap, h8] 84 (0, 0))) :
  Calls Try.prog 69 #[.pointer (some ⟨ga, 0, none⟩), .agg #[.int .i64 x.kind, .string ⟨x.alias.toArray⟩, .string ⟨x.name.toArray⟩, c3, c4, .string ⟨x.on_.toArray⟩, c6]] w fun e w' =>
   e = .returned (.tuple #[]) ∧ FNew B n cap oa gs x c3 c4 c6 ga w w' := by
 have hlt : ga < w.heap.size := (Array.getElem?_eq_some_iff.1 hga).1
 have hcg : ∀ w1 : World, w1.heap[ga]? = w.heap[ga]? → w1.cell? ⟨ga, 7, none⟩ = some (.slice oa n cap) ∧ w1.frozen? ⟨ga, 7, none⟩ = false := by
  intro w1 hb
  have hb2 := hb.trans hga
  refine ⟨by rw [cell_of_row w1 ga 7 _ _ _ hb2]; rfl, by simp [World.frozen?, hb2]⟩
 have hkey : ∀ w1 w2 : World, Below (w1.alloc (.cells #[.string ⟨(gKey x).toArray⟩] 9)).heap.size (w1.alloc (.cells #[.string ⟨(gKey x).toArray⟩] 9)) w2 → w2.cell? ⟨w1.heap.size, 0, none⟩ = some (.string ⟨(gKey x).toArray⟩) := by
  intro w1 w2 hb
  exact cell_of_one ((hb.block w1.heap.size (by simp)).trans (heap_alloc_new w1 _))
 have hkept : ∀ w1, Below w.heap.size w w1 → w1.ownsRow B 50 2 (.slice oa n cap) n (flatG gs) := by
  intro w1 hb
  exact hout.kept (w' := w1) (row := none) ⟨hb.os, hb.tape, hb.output, hb.size, fun k hk _ => hb.block k hk⟩ (by cases oa <;> simp [Value.ownBlock])
 have hidxw : ∀ w1 : World, Below w.heap.size w w1 → Calls Try.prog 87 #[.slice oa n cap, .func (.func 88) #[] #[.pointer (some ⟨w1.heap.size, 0, none⟩)]] (w1.alloc (.cells #[.string ⟨(gKey x).toArray⟩] 9)) fun e w' => Below (w1.alloc (.cells #[.string ⟨(gKey x).toArray⟩] 9)).heap.size (w1.alloc (.cells #[.string ⟨(gKey x).toArray⟩] 9)) w' ∧ e = .returned (.int .i64 (-1)) := by
  intro w1 hb
  have := idx_any B n cap oa gs ⟨(gKey x).toArray⟩ w1.heap.size (w1.alloc (.cells #[.string ⟨(gKey x).toArray⟩] 9)) hn ((hkept w1 hb).alloc _) (hkey w1 _ (Below.refl _ _))
  rw [hidx] at this; exact this
 obtain ⟨i0, hi, hz0, hz1, hz2⟩ := info_parts Try.info50
 obtain ⟨i1, gi, gz0, gz1, gz2⟩ := info_parts Try.info41
 clear hidx
 go_enter Try.func69, Try.ntmps69
 go_wp2_with (first
  | (go_at_call 21; refine (key_walk x c3 c4 c6 _).mono ?_; rintro e w1 ⟨hb1, rfl⟩; have hbw1 := ((Below.refl w.heap.size w).alloc (Nat.le_refl _) _).trans (hb1.mono (by simp)); have hg7 := (hcg w1 (hbw1.block ga hlt)).1; have hlt1 : ga < w1.heap.size := Nat.lt_of_lt_of_le hlt hbw1.size; have hltx : w.heap.size < w1.heap.size := Nat.lt_of_lt_of_le (by simp) hb1.size; have hx1 : XAt w1 w.heap.size x c3 c4 c6 := (hb1.block w.heap.size (by simp)).trans (heap_alloc_new w _))
  | (go_at_call 87; refine (hidxw w1 hbw1).mono ?_; rintro e w2 ⟨hb2, rfl⟩; have hbw2 := (hbw1.alloc hbw1.size _).trans (hb2.mono (Nat.le_trans hbw1.size (by simp))); have hg72 := (hcg w2 (hbw2.block ga hlt)).1; have hg72f := (hcg w2 (hbw2.block ga hlt)).2; have hk2 := hkey w1 w2 hb2; have hlt2 : ga < w2.heap.size := Nat.lt_of_lt_of_le hlt hbw2.size; have hltk2 : w1.heap.size < w2.heap.size := Nat.lt_of_lt_of_le (by simp) hb2.size; have hx2 : XAt w2 w.heap.size x c3 c4 c6 := (hb2.block w.heap.size (by simp; omega)).trans ((Below.heap_alloc w1 _ _ hltx).trans hx1)))
 have hsz2 := hbw2.size
 have hne0 : some ga ≠ (Value.slice oa n cap).ownBlock := fun e => hoga ga e.symm rfl
 have hown2 := (hkept w2 hbw2).alloc (.cells #[.string ⟨(gKey x).toArray⟩, .slice none 0 0] 50)
 have hga2 : (w2.alloc (.cells #[.string ⟨(gKey x).toArray⟩, .slice none 0 0] 50)).heap[ga]? = w.heap[ga]? := (heap_alloc_old w2 _ hlt2).trans (hbw2.block ga hlt)
 have hnews := World.news_of_block (cs := #[.string ⟨(gKey x).toArray⟩, .slice none 0 0]) (heap_alloc_new w2 (.cells #[.string ⟨(gKey x).toArray⟩, .slice none 0 0] 50))
 go_region_law (refine step_append_lies _ rfl (.tmp 25) (.tmp 28) 44 rfl B 50 i0 _ 2 40 Try.underlying44 hi hz0 hz1 hz2 rfl (by decide) (.slice oa n cap) n (flatG gs) rfl hown2 ⟨w2.heap.size, 0, none⟩ 1 1 [.string ⟨(gKey x).toArray⟩, .slice none 0 0] rfl rfl hnews (by intro u hu; simp at hu; rcases hu with rfl | rfl <;> rfl) (by decide) (by unfold maxLen; omega) (by omega) (by show B ≤ (w2.alloc (.cells #[.string ⟨(gKey x).toArray⟩, .slice none 0 0] 50)).heap.size; simp; omega) _ rfl ?_; intro g cap3 w3 hown3 hgrow3 hat3 hlt3; have hga3 : w3.heap[ga]? = w.heap[ga]? := (hgrow3.block ga (by show ga < (w2.alloc (.cells #[.string ⟨(gKey x).toArray⟩, .slice none 0 0] 50)).heap.size; simp; omega) hne0).trans hga2; have hg73 := (hcg w3 hga3).1; have hg73f := (hcg w3 hga3).2)
 all_goals
  have hfl : (flatG gs).length = 2 * n := by have := hout.1; omega
  have hne : g ≠ ga := by
   rcases hat3 with h | h
   ·exact hoga g h
   ·have h' : g = (w2.alloc (.cells #[.string ⟨(gKey x).toArray⟩, .slice none 0 0] 50)).heap.size := h
    simp at h'; omega
  have hP : Hid (w3.ownsRow B 50 2 (.slice (some ⟨g, 0, none⟩) (n + 1) cap3) (n + 1) (flatG gs ++ [.string ⟨(gKey x).toArray⟩, .slice none 0 0]) ∧ ((Value.slice oa n cap).ownBlock = some g ∨ w.heap.size ≤ g) ∧ g < w3.heap.size ∧
    w.heap.size ≤ w3.heap.size ∧ w3.os = w.os ∧ w3.tape = w.tape ∧ w3.output = w.output ∧ (∀ k, k < w.heap.size → some k ≠ (Value.slice oa n cap).ownBlock → w3.heap[k]? = w.heap[k]?)) := by
   have hbb : Below w.heap.size w (w2.alloc (.cells #[.string ⟨(gKey x).toArray⟩, .slice none 0 0] 50)) := hbw2.alloc hsz2 _
   refine ⟨hown3, ?_, hlt3, Nat.le_trans hbb.size hgrow3.size, hgrow3.os.trans hbb.os, hgrow3.tape.trans hbb.tape, hgrow3.output.trans hbb.output, fun k hk hks => (hgrow3.block k (Nat.lt_of_lt_of_le hk hbb.size) hks).trans (hbb.block k hk)⟩
   rcases hat3 with h | h
   ·exact .inl h
   ·right
    have h' : g = (w2.alloc (.cells #[.string ⟨(gKey x).toArray⟩, .slice none 0 0] 50)).heap.size := h
    rw [h']; exact hbb.size
  have hx3 : XAt w3 w.heap.size x c3 c4 c6 := by
   refine (hgrow3.block w.heap.size (Nat.lt_of_lt_of_le hltx (Nat.le_trans (Nat.le_of_lt hltk2) (by show _ ≤ (w2.alloc (.cells #[.string ⟨(gKey x).toArray⟩, .slice none 0 0] 50)).heap.size; simp))) ?_).trans (heap_al _ hx2)
   intro e
   have := (hout.lt w.heap.size e.symm).2
   omega
  obtain ⟨c31, f31⟩ : w3.cell? ⟨g, n * 2 + 1, none⟩ = some (.slice none 0 0) ∧ w3.frozen? ⟨g, n * 2 + 1, none⟩ = false := by
   obtain ⟨g', e, _, h1, h2⟩ := own_cell hown3 (j := n * 2 + 1) (u := .slice none 0 0) (by rw [List.getElem?_append_right (by omega), hfl, show n * 2 + 1 - 2 * n = 1 by omega]; rfl)
   cases e
   exact ⟨h1, h2⟩
  have hlt3a : ga < w3.heap.size := Nat.lt_of_lt_of_le hlt hP.out.2.2.2.1
  obtain ⟨w4, hw4⟩ : ∃ w4, w4 = w3.setCell ⟨ga, 7, none⟩ (.slice (some ⟨g, 0, none⟩) (n + 1) cap3) := ⟨_, rfl⟩
  have h4o : w4.cell? ⟨ga, 7, none⟩ = some (.slice (some ⟨g, 0, none⟩) (n + 1) cap3) := by
   rw [hw4]; simp [World.cell?, World.setCell, Array.getElem?_modify, hga3, hga]
  have h4b : ∀ k, k ≠ ga → w4.heap[k]? = w3.heap[k]? := fun k hk => by rw [hw4]; exact Below.heap_setCell _ _ _ _ hk
  have h41 : w4.cell? ⟨g, n * 2 + 1, none⟩ = some (.slice none 0 0) := (World.cell?_of_block (h4b g hne)).trans c31
  have h4f : w4.frozen? ⟨g, n * 2 + 1, none⟩ = false := (World.frozen?_of_block (h4b g hne)).trans f31
  have hx4 : XAt w4 w.heap.size x c3 c4 c6 := (h4b w.heap.size (by omega)).trans hx3
  have h4s : w4.heap.size = w3.heap.size := by rw [hw4]; simp [World.setCell]
  have hP4 := hP.out
  have hnn : (n : Int) < ((n + 1 : Nat) : Int) := by omega
  have hfin : ∀ w' g2 cap2, FTail B w4 g n (.slice none 0 0) 0 [] x c3 c4 c6 w' g2 cap2 → Ending.returned (.tuple #[]) = Ending.returned (.tuple #[]) ∧ FNew B n cap oa gs x c3 c4 c6 ga w w' := by
   intro w' g2 cap2 hF
   rw [hw4] at hF
   exact ⟨rfl, w3, g, cap3, g2, cap2, hP4.1, hP4.2.1, hP4.2.2.1, hP4.2.2.2.1, hP4.2.2.2.2.1, hP4.2.2.2.2.2.1, hP4.2.2.2.2.2.2.1, hP4.2.2.2.2.2.2.2, hF⟩
  rw [← hw4]
  have hB4 : B ≤ w4.heap.size := by rw [h4s]; exact Nat.le_trans hB hP4.2.2.2.1
  refine ‹∀ (a : Act) (w : World), Code.wp Try.prog _ _ a w → _› _ _ ?_
  exact tail_walk (fun e w' => e = .returned (.tuple #[]) ∧ FNew B n cap oa gs x c3 c4 c6 ga w w') B (n + 1) cap3 n 0 none 0 [] x c3 c4 c6 ga g w.heap.size w4 hB4 (by omega) hnn hs3 hs4 hs6 h4o h41 h4f hx4 (World.ownsRow_nil _ _ _ _) (fun k hk => by simp [Value.ownBlock] at hk) (fun w' g2 cap2 hF => ⟨rfl, (hfin w' g2 cap2 hF).2⟩) _ _ _ _ _ _ _ _ _ _ _ _ _ _ _ _ _ _ _ _ _ _ _ _ _ _ _ _ _ _ _ _ _ _ _ _ _ _ _ _ _ _ _ _ _ _ _ _ _ _ _ _ _ _ _ _ _ _ _ _ _ _ _ _
def FOld (B m idx g : Nat) (sv : Value) (ys : List Value) (x : GSel) (c3 c4 c6 : Value) (w w' : World) : Prop :=
 ∃ (w2 : World) (g2 cap2 : Nat), Below w.heap.size w w2 ∧ FTail B w2 g idx sv m ys x c3 c4 c6 w' g2 cap2
set_option maxHeartbeats 8000000 in
set_option maxRecDepth 100000 in
theorem field_old (B n cap g idx m cap1 : Nat) (oa2 : Option Addr) (ys : List Value) (gs : List (ByteArray × Value)) (x : GSel) (c3 c4 c6 : Value) (ga : Nat) (h0 h1 h2 h3 h4 h5 h6 h8 : Value) (w : World) (hB : B ≤ w.heap.size) (hn : n ≤ 1073741824) (hm : m ≤ 1073741824)
  (hs3 : ∃ a l k, c3 = .slice a l k) (hs4 : ∃ a l k, c4 = .slice a l k) (hs6 : ∃ a l k, c6 = .slice a l k)
  (hout : w.ownsRow B 50 2 (.slice (some ⟨g, 0, none⟩) n cap) n (flatG gs)) (hoga : g ≠ ga) (hidx : idxOf gs ⟨(gKey x).toArray⟩ = idx) (kk : ByteArray) (hat : gs[idx]? = some (kk, .slice oa2 m cap1))
  (hsv : w.ownsRow B 41 7 (.slice oa2 m cap1) m ys) (hsvg : ∀ k, (Value.slice oa2 m cap1).ownBlock = some k → k ≠ g ∧ k ≠ ga)
  (hga : w.heap[ga]? = some (.cells #[h0, h1, h2, h3, h4, h5, h6, .slice (some ⟨g, 0, none⟩) n cap, h8] 84 (0, 0))) :
  Calls Try.prog 69 #[.pointer (some ⟨ga, 0, none⟩), .agg #[.int .i64 x.kind, .string ⟨x.alias.toArray⟩, .string ⟨x.name.toArray⟩, c3, c4, .string ⟨x.on_.toArray⟩, c6]] w fun e w' =>
   e = .returned (.tuple #[]) ∧ FOld B m idx g (.slice oa2 m cap1) ys x c3 c4 c6 w w' := by
 have hlt : ga < w.heap.size := (Array.getElem?_eq_some_iff.1 hga).1
 have hcg : ∀ w1 : World, w1.heap[ga]? = w.heap[ga]? → w1.cell? ⟨ga, 7, none⟩ = some (.slice (some ⟨g, 0, none⟩) n cap) := by
  intro w1 hb
  rw [cell_of_row w1 ga 7 _ _ _ (hb.trans hga)]; rfl
 have hkey : ∀ w1 w2 : World, Below (w1.alloc (.cells #[.string ⟨(gKey x).toArray⟩] 9)).heap.size (w1.alloc (.cells #[.string ⟨(gKey x).toArray⟩] 9)) w2 → w2.cell? ⟨w1.heap.size, 0, none⟩ = some (.string ⟨(gKey x).toArray⟩) := by
  intro w1 w2 hb
  exact cell_of_one ((hb.block w1.heap.size (by simp)).trans (heap_alloc_new w1 _))
 have hkept : ∀ w1, Below w.heap.size w w1 → w1.ownsRow B 50 2 (.slice (some ⟨g, 0, none⟩) n cap) n (flatG gs) ∧ w1.ownsRow B 41 7 (.slice oa2 m cap1) m ys := by
  intro w1 hb
  have hg : w.grownBy w1 none := ⟨hb.os, hb.tape, hb.output, hb.size, fun k hk _ => hb.block k hk⟩
  exact ⟨hout.kept hg (by simp [Value.ownBlock]), hsv.kept hg (by cases oa2 <;> simp [Value.ownBlock])⟩
 have hidxw : ∀ w1 : World, Below w.heap.size w w1 → Calls Try.prog 87 #[.slice (some ⟨g, 0, none⟩) n cap, .func (.func 88) #[] #[.pointer (some ⟨w1.heap.size, 0, none⟩)]] (w1.alloc (.cells #[.string ⟨(gKey x).toArray⟩] 9)) fun e w' => Below (w1.alloc (.cells #[.string ⟨(gKey x).toArray⟩] 9)).heap.size (w1.alloc (.cells #[.string ⟨(gKey x).toArray⟩] 9)) w' ∧ e = .returned (.int .i64 idx) := by
  intro w1 hb
  have := idx_any B n cap (some ⟨g, 0, none⟩) gs ⟨(gKey x).toArray⟩ w1.heap.size (w1.alloc (.cells #[.string ⟨(gKey x).toArray⟩] 9)) hn ((hkept w1 hb).1.alloc _) (hkey w1 _ (Below.refl _ _))
  rw [hidx] at this; exact this
 have hgl : gs.length = n := by have := hout.1; rw [flatG_len] at this; omega
 have hil : idx < n := by rw [← hgl]; exact (List.getElem?_eq_some_iff.1 hat).1
 have hfl := (flatG_at gs idx kk _ hat).2
 have hxne : ∀ k, (Value.slice oa2 m cap1).ownBlock = some k → k ≠ w.heap.size := fun k hk => by have := (hsv.lt k hk).2; omega
 clear hidx
 have hnn : ¬ ((idx : Int) < 0) := by omega
 go_enter Try.func69, Try.ntmps69
 go_wp2_with (first
  | (go_at_call 21; refine (key_walk x c3 c4 c6 _).mono ?_; rintro e w1 ⟨hb1, rfl⟩; have hbw1 := ((Below.refl w.heap.size w).alloc (Nat.le_refl _) _).trans (hb1.mono (by simp)); have hg7 := hcg w1 (hbw1.block ga hlt); have hlt1 : ga < w1.heap.size := Nat.lt_of_lt_of_le hlt hbw1.size; have hltx : w.heap.size < w1.heap.size := Nat.lt_of_lt_of_le (by simp) hb1.size; have hx1 : XAt w1 w.heap.size x c3 c4 c6 := (hb1.block w.heap.size (by simp)).trans (heap_alloc_new w _))
  | (go_at_call 87; refine (hidxw w1 hbw1).mono ?_; rintro e w2 ⟨hb2, rfl⟩; have hbw2 := (hbw1.alloc hbw1.size _).trans (hb2.mono (Nat.le_trans hbw1.size (by simp))); have hg72 := hcg w2 (hbw2.block ga hlt); have hx2 : XAt w2 w.heap.size x c3 c4 c6 := (hb2.block w.heap.size (by simp; omega)).trans ((Below.heap_alloc w1 _ _ hltx).trans hx1)))
 have hK := ‹∀ (a : Act) (w : World), Code.wp Try.prog _ _ a w → _›
 obtain ⟨hk1, hk2⟩ := hkept w2 hbw2
 obtain ⟨g', e, _, h41, h4f⟩ := own_cell hk1 (j := idx * 2 + 1) (u := .slice oa2 m cap1) (by rw [Nat.mul_comm]; exact hfl)
 cases e
 exact reg_walk (fun e w' => e = .returned (.tuple #[]) ∧ FOld B m idx g (.slice oa2 m cap1) ys x c3 c4 c6 w w') B n cap idx m oa2 cap1 ys x c3 c4 c6 ga g w.heap.size w2 (Nat.le_trans hB hbw2.size) hm (by omega) hs3 hs4 hs6 hg72 h41 h4f hx2 hk2 (fun k hk => ⟨(hsvg k hk).1, (hsvg k hk).2, hxne k hk⟩) (fun w' g2 cap2 hF => ⟨rfl, w2, g2, cap2, hbw2, hF⟩) _ _ _ _ _ _ _ _ _ _ _ _ _ _ _ _ _ _ _ _ _ _ _ _ _ _ _ _ _ _ _ _ _ _ _ _ _ _ _ _ _ _ _ _ _ _ _ _ _ _ _ _ _ _ _ _ _ _ _ _ _ _ _ _ _ hK
def MetAt (w : World) (b : Nat) (met : List Str) : Prop :=
 ∃ (n : Nat) (D : DataW Unit), w.ownsMap Try.prog 9 (plainElem Try.prog 4) b n D ∧ n ≤ met.length ∧ ∀ s : Str, D.atKey (.string s) (.lit (.bool false)) = .lit (.bool (met.contains s))
theorem MetAt.congr {w w' : World} {b : Nat} {met : List Str} (h : MetAt w b met) (hb : w'.heap[b]? = w.heap[b]?) : MetAt w' b met := by
 obtain ⟨n, D, ⟨es, clock, h1, h2⟩, h3⟩ := h
 exact ⟨n, D, ⟨es, clock, hb.trans h1, h2⟩, h3⟩
theorem MetAt.lt {w : World} {b : Nat} {met : List Str} (h : MetAt w b met) : b < w.heap.size := by
 obtain ⟨n, D, h1, _⟩ := h
 exact h1.lt
theorem metAt_made (w : World) : MetAt (w.alloc (.map #[] 0)) w.heap.size [] :=
 ⟨0, _, World.ownsMap_made w Try.prog 9 _, Nat.le_refl _, fun s => rfl⟩
theorem Try.u9 : Try.prog.underlying 9 = some .string := by kernel_rfl
theorem Try.u4 : Try.prog.underlying 4 = some .bool := by kernel_rfl
theorem keyOf9 (s : Str) (hs : s.length ≤ maxLen) : keyOf Try.prog 9 (.string ⟨s.toArray⟩) = some (.string s) := by
 have := WideMaps.keyOf_string_mk Try.u9 (s := ⟨s.toArray⟩) (by show s.toArray.size ≤ _; simpa using hs)
 simpa using this
theorem MetAt.lookup {w : World} {b : Nat} {met : List Str} {t : TypeId} (h : MetAt w b met) (ht : Try.prog.underlying t = some (.map 9 4)) (hz : (zeroValue 4).run Try.prog w = .ok (.bool false) w) (s : Str) (hs : s.length ≤ maxLen) :
  (Instr.lookup t (.map (some b)) (.string ⟨s.toArray⟩) false).run Try.prog w = .ok (.bool (met.contains s)) w := by
 obtain ⟨n, D, h1, _, h2⟩ := h
 obtain ⟨v, ps, hrun, hv⟩ := h1.lookup (Maps.string_keyed Try.u9) ht hz (plainElem_bool Try.u4 false) (keyOf9 s hs)
 rw [h2 s] at hv
 unfold plainElem at hv
 rw [Try.u4] at hv
 cases v <;> simp at hv
 have hd : decide (s ∈ met) = met.contains s := by rw [Bool.eq_iff_iff, decide_eq_true_iff, List.contains_iff_mem]
 rw [hrun, hv.1, hd]
theorem MetAt.update {w : World} {b : Nat} {met : List Str} {t : TypeId} (h : MetAt w b met) (ht : Try.prog.underlying t = some (.map 9 4)) (hl : met.length < maxLen) (s : Str) (hs : s.length ≤ maxLen) :
  ∃ w', (Instr.mapUpdate t (.map (some b)) (.string ⟨s.toArray⟩) (.bool true)).run Try.prog w = .ok () w' ∧ MetAt w' b (met ++ [s]) ∧ w.grownBy w' (some b) := by
 obtain ⟨n, D, h1, hn, h2⟩ := h
 obtain ⟨w', k1, k2, k3⟩ := h1.update (Maps.string_keyed Try.u9) ht (Nat.lt_of_le_of_lt hn hl) (keyOf9 s hs) (plainElem_bool (H := Unit) Try.u4 true)
 refine ⟨w', k1, ⟨n + 1, _, k2, ?_, fun s' => ?_⟩, k3⟩
 ·rw [List.length_append]; exact Nat.add_le_add_right hn 1
 rw [contains_app]
 by_cases e : s' = s
 ·subst e
  rw [Maps.atKey_put_same h1.isMap (k := .string s') trivial]
  simp
 ·have hne : (Lit.string s') ≠ .string s := fun h => e (by cases h; rfl)
  rw [Maps.atKey_put_other hne, h2]
  have hb : (s' == s) = false := by simpa using e
  rw [hb, Bool.or_false]
structure CV (M : Mem) (x : GSel) (c3 c4 c6 : Value) : Prop where
 r3 : Rv M noB (.slice (List.map encMember x.args) [] false) c3
 r4 : Rv M noB (.slice (List.map encDir x.dirs) [] false) c4
 r6 : Rv M noB (.slice (List.map encSel x.sels) [] false) c6
theorem CV.mono {M M' : Mem} {x : GSel} {c3 c4 c6 : Value} (h : CV M x c3 c4 c6) (hM : ∀ b i v, M b i = some v → M' b i = some v) : CV M' x c3 c4 c6 :=
 ⟨h.r3.mono hM (fun _ _ _ h => h), h.r4.mono hM (fun _ _ _ h => h), h.r6.mono hM (fun _ _ _ h => h)⟩
theorem isSlice {M : Mem} {B : BM} {es : List PV} {v : Value} (h : Rv M B (.slice es [] false) v) : ∃ a l k, v = .slice a l k := by
 cases h with
 | nil o => exact ⟨_, _, _, rfl⟩
 | slice es bs o a cap s f ha hc ho hel hm hr => exact ⟨_, _, _, rfl⟩
inductive SelRow (M : Mem) : List GSel → List Value → Prop
 | nil : SelRow M [] []
 | snoc {l : List GSel} {ys : List Value} {x : GSel} {c3 c4 c6 : Value} (h : SelRow M l ys) (hc : CV M x c3 c4 c6) : SelRow M (l ++ [x]) (ys ++ xCells x c3 c4 c6)
theorem SelRow.mono {M M' : Mem} {l : List GSel} {ys : List Value} (h : SelRow M l ys) (hM : ∀ b i v, M b i = some v → M' b i = some v) : SelRow M' l ys := by
 induction h with
 | nil => exact .nil
 | snoc h hc ih => exact .snoc ih (hc.mono hM)
def GRow (M : Mem) (B : Nat) (w : World) (l : List GSel) (v : Value) : Prop :=
 ∃ oa cap ys, v = .slice oa l.length cap ∧ w.ownsRow B 41 7 v l.length ys ∧ SelRow M l ys
theorem own_congr {w w' : World} {B e size n : Nat} {v : Value} {xs : List Value} (h : w.ownsRow B e size v n xs) (hb : ∀ k, v.ownBlock = some k → w'.heap[k]? = w.heap[k]?) : w'.ownsRow B e size v n xs := by
 refine ⟨h.1, ?_⟩
 rcases h.2 with hn | ⟨g, cap, cur, rfl, hB, hgg, rest⟩
 ·exact .inl hn
 ·exact .inr ⟨g, cap, cur, rfl, hB, (hb g rfl).trans hgg, rest⟩
theorem GRow.congr {M M' : Mem} {B : Nat} {w w' : World} {l : List GSel} {v : Value} (h : GRow M B w l v) (hM : ∀ b i v, M b i = some v → M' b i = some v) (hb : ∀ k, v.ownBlock = some k → w'.heap[k]? = w.heap[k]?) : GRow M' B w' l v := by
 obtain ⟨oa, cap, ys, h1, h2, h3⟩ := h
 exact ⟨oa, cap, ys, h1, own_congr h2 hb, h3.mono hM⟩
theorem GRow.lt {M : Mem} {B : Nat} {w : World} {l : List GSel} {v : Value} (h : GRow M B w l v) : ∀ k, v.ownBlock = some k → B ≤ k ∧ k < w.heap.size := by
 obtain ⟨oa, cap, ys, h1, h2, h3⟩ := h
 exact h2.lt
def zipG : List GGroup → List Value → List (ByteArray × Value)
 | g :: l, v :: vs => (⟨g.key.toArray⟩, v) :: zipG l vs
 | _, _ => []
theorem zipG_len : ∀ (l : List GGroup) (vs : List Value), vs.length = l.length → (zipG l vs).length = l.length
 | [], [], _ => rfl
 | [], _ :: _, h => by simp at h
 | _ :: _, [], h => by simp at h
 | g :: l, v :: vs, h => by simp only [zipG, List.length_cons, zipG_len l vs (by simpa using h)]
theorem zipG_at : ∀ (l : List GGroup) (vs : List Value) (i : Nat) (g : GGroup) (v : Value), l[i]? = some g → vs[i]? = some v → (zipG l vs)[i]? = some (⟨g.key.toArray⟩, v)
 | [], _, i, g, v, h, _ => by simp at h
 | _ :: _, [], i, g, v, _, h => by simp at h
 | a :: l, b :: vs, 0, g, v, h1, h2 => by simp at h1 h2; subst h1 h2; rfl
 | a :: l, b :: vs, i + 1, g, v, h1, h2 => by simp only [zipG, List.getElem?_cons_succ]; exact zipG_at l vs i g v (by simpa using h1) (by simpa using h2)
theorem zipG_app : ∀ (l : List GGroup) (vs : List Value) (g : GGroup) (v : Value), vs.length = l.length → zipG (l ++ [g]) (vs ++ [v]) = zipG l vs ++ [(⟨g.key.toArray⟩, v)]
 | [], [], _, _, _ => rfl
 | [], _ :: _, _, _, h => by simp at h
 | _ :: _, [], _, _, h => by simp at h
 | a :: l, b :: vs, g, v, h => by simp only [List.cons_append, zipG, zipG_app l vs g v (by simpa using h)]
theorem flat_set : ∀ (l : List GGroup) (vs : List Value) (i : Nat) (G G' : GGroup) (u v : Value), vs.length = l.length → l[i]? = some G → G'.key = G.key → flatG (zipG (l.set i G') (vs.set i v)) = (flatG (zipG l vs)).set (i * 2 + 1) v
 | [], _, i, G, _, _, _, _, h, _ => by simp at h
 | _ :: _, [], _, _, _, _, _, h, _, _ => by simp at h
 | a :: l, b :: vs, 0, G, G', u, v, hl, h, hk => by simp at h; subst h; simp [zipG, flatG, hk]
 | a :: l, b :: vs, i + 1, G, G', u, v, hl, h, hk => by
  have := flat_set l vs i G G' u v (by simpa using hl) (by simpa using h) hk
  simp only [List.set_cons_succ, zipG, flatG, this, show (i + 1) * 2 + 1 = (i * 2 + 1) + 1 + 1 by omega]
theorem putG_idx (k : Str) (x : GSel) : ∀ (l : List GGroup) (vs : List Value), vs.length = l.length → 
  (idxOf (zipG l vs) ⟨k.toArray⟩ = -1 ∧ putG l k x = l ++ [⟨k, [x]⟩]) ∨ ∃ (i : Nat) (G : GGroup), idxOf (zipG l vs) ⟨k.toArray⟩ = i ∧ l[i]? = some G ∧ putG l k x = l.set i ⟨G.key, G.sels ++ [x]⟩
 | [], [], _ => .inl ⟨rfl, rfl⟩
 | [], _ :: _, h => by simp at h
 | _ :: _, [], h => by simp at h
 | g :: l, v :: vs, h => by
  by_cases e : g.key = k
  ·refine .inr ⟨0, g, ?_, rfl, ?_⟩
   ·simp [zipG, idxOf, e]
   ·simp [putG, e]
  ·have hne : ((⟨g.key.toArray⟩ : ByteArray).toList == (⟨k.toArray⟩ : ByteArray).toList) = false := by simpa using e
   rcases putG_idx k x l vs (by simpa using h) with ⟨h1, h2⟩ | ⟨i, G, h1, h2, h3⟩
   ·left
    refine ⟨?_, ?_⟩
    ·simp only [zipG, idxOf, hne, h1]; simp
    ·simp only [putG, if_neg e, h2, List.cons_append]
   ·right
    refine ⟨i + 1, G, ?_, by simpa using h2, ?_⟩
    ·simp only [zipG, idxOf, hne, h1]
     simp only [Bool.false_eq_true, if_false]
     rw [if_neg (by omega)]; omega
    ·simp only [putG, if_neg e, h3, List.set_cons_succ]
structure GS (e : GEnv) (B ga gm : Nat) (M : Mem) (w : World) (gs : List GGroup) (met : List Str) (h0 h1 h2 h3 h4 h5 h6 : Value) (oa : Option Addr) (cap : Nat) (vs : List Value) : Prop where
 le : B ≤ w.heap.size
 cons : Cons M w
 bga : B ≤ ga
 bgm : B ≤ gm
 ne : ga ≠ gm
 row : w.heap[ga]? = some (.cells #[h0, h1, h2, h3, h4, h5, h6, .slice oa gs.length cap, .map (some gm)] 84 (0, 0))
 rs : Rv M noB (.agg [(.slice (List.map encDef e.s.defs) [] false), (.str e.s.query), (.str e.s.mutation)]) (.agg #[h0, h1, h2])
 rd : Rv M noB (.agg [(.slice (List.map encOp e.d.ops) [] false), (.slice (List.map encFrag e.d.frags) [] false)]) (.agg #[h3, h4])
 re : Rv M noB (.slice (List.map encMember e.env) [] false) h5
 rt : Rv M noB (.str e.typ) h6
 len : vs.length = gs.length
 own : w.ownsRow B 50 2 (.slice oa gs.length cap) gs.length (flatG (zipG gs vs))
 sub : ∀ (i : Nat) (g : GGroup) (v : Value), gs[i]? = some g → vs[i]? = some v → GRow M B w g.sels v
 apart : ∀ (i j : Nat) (v v' : Value) (k : Nat), i ≠ j → vs[i]? = some v → vs[j]? = some v' → v.ownBlock = some k → v'.ownBlock ≠ some k
 off : ∀ (i : Nat) (v : Value) (k : Nat), vs[i]? = some v → v.ownBlock = some k → k ≠ ga ∧ k ≠ gm ∧ (Value.slice oa gs.length cap).ownBlock ≠ some k
 offo : ∀ k, (Value.slice oa gs.length cap).ownBlock = some k → k ≠ ga ∧ k ≠ gm
 met : MetAt w gm met
 fga : ∀ i, M ga i = none
 fgm : ∀ i, M gm i = none
 fo : ∀ k, (Value.slice oa gs.length cap).ownBlock = some k → ∀ i, M k i = none
 fv : ∀ (i : Nat) (v : Value) (k : Nat), vs[i]? = some v → v.ownBlock = some k → ∀ i, M k i = none
theorem cons_lt {M : Mem} {w : World} (h : Cons M w) {b : Nat} (hb : w.heap.size ≤ b) (i : Nat) : M b i = none := by
 cases hm : M b i with
 | none => rfl
 | some v =>
  obtain ⟨arr, T, fz, h1, _⟩ := h b i v hm
  have := (Array.getElem?_eq_some_iff.1 h1).1
  omega
theorem cons_kept {M : Mem} {w w' : World} (h : Cons M w) (hb : ∀ k, k < w.heap.size → (∃ i, M k i ≠ none) → w'.heap[k]? = w.heap[k]?) : Cons M w' := by
 intro b i v hv
 obtain ⟨arr, T, fz, h1, h2⟩ := h b i v hv
 exact ⟨arr, T, fz, (hb b (Array.getElem?_eq_some_iff.1 h1).1 ⟨i, by rw [hv]; simp⟩).trans h1, h2⟩
theorem GS.at {e : GEnv} {B ga gm : Nat} {M : Mem} {w : World} {gs : List GGroup} {met : List Str} {h0 h1 h2 h3 h4 h5 h6 : Value} {oa : Option Addr} {cap : Nat} {vs : List Value} (h : GS e B ga gm M w gs met h0 h1 h2 h3 h4 h5 h6 oa cap vs) {i : Nat} {v : Value} (hv : vs[i]? = some v) : ∃ g, gs[i]? = some g ∧ GRow M B w g.sels v := by
 have hi : i < gs.length := by rw [← h.len]; exact (List.getElem?_eq_some_iff.1 hv).1
 exact ⟨gs[i], List.getElem?_eq_getElem hi, h.sub i _ v (List.getElem?_eq_getElem hi) hv⟩
theorem GS.quiet {e : GEnv} {B ga gm : Nat} {M M' : Mem} {w w' : World} {gs : List GGroup} {met : List Str} {h0 h1 h2 h3 h4 h5 h6 : Value} {oa : Option Addr} {cap : Nat} {vs : List Value} (h : GS e B ga gm M w gs met h0 h1 h2 h3 h4 h5 h6 oa cap vs) (q : Quiet M w M' w') (hc : Cons M' w') : GS e B ga gm M' w' gs met h0 h1 h2 h3 h4 h5 h6 oa cap vs := by
 have lga : ga < w.heap.size := (Array.getElem?_eq_some_iff.1 h.row).1
 have lv : ∀ (i : Nat) (v : Value) (k : Nat), vs[i]? = some v → v.ownBlock = some k → k < w.heap.size := by
  intro i v k hv hk
  obtain ⟨g, h1, h2⟩ := h.at hv
  exact (h2.lt k hk).2
 exact ⟨Nat.le_trans h.le q.size, hc, h.bga, h.bgm, h.ne, (q.old ga lga).1.trans h.row, h.rs.mono q.mem (fun _ _ _ h => h), h.rd.mono q.mem (fun _ _ _ h => h), h.re.mono q.mem (fun _ _ _ h => h), h.rt.mono q.mem (fun _ _ _ h => h), h.len,
  own_congr h.own (fun k hk => (q.old k (h.own.lt k hk).2).1), fun i g v hg hv => (h.sub i g v hg hv).congr q.mem (fun k hk => (q.old k (lv i v k hv hk)).1), h.apart, h.off, h.offo, h.met.congr (q.old gm h.met.lt).1,
  fun i => ((q.old ga lga).2 i).trans (h.fga i), fun i => ((q.old gm h.met.lt).2 i).trans (h.fgm i), fun k hk i => ((q.old k (h.own.lt k hk).2).2 i).trans (h.fo k hk i), fun i v k hv hk j => ((q.old k (lv i v k hv hk)).2 j).trans (h.fv i v k hv hk j)⟩
theorem quiet_below {M : Mem} {w w' : World} (h : Below w.heap.size w w') : Quiet M w M w' := ⟨fun _ _ _ h => h, fun b hb => ⟨h.block b hb, fun _ => rfl⟩, h.size, h.os, h.tape, h.output⟩
theorem cons_below {M : Mem} {w w' : World} (hc : Cons M w) (h : Below w.heap.size w w') : Cons M w' := cons_kept hc fun k hk _ => h.block k hk
theorem GS.old {e : GEnv} {B ga gm : Nat} {M : Mem} {w w2 w' : World} {gs : List GGroup} {met : List Str} {h0 h1 h2 h3 h4 h5 h6 : Value} {g : Nat} {cap : Nat} {vs : List Value} {idx m g2 cap1 cap2 : Nat} {oa2 : Option Addr} {ys : List Value} {G : GGroup} {x : GSel} {c3 c4 c6 : Value}
  (h : GS e B ga gm M w gs met h0 h1 h2 h3 h4 h5 h6 (some ⟨g, 0, none⟩) cap vs) (hw2 : Below w.heap.size w w2) (hG : gs[idx]? = some G) (hv : vs[idx]? = some (.slice oa2 m cap1)) (hm : G.sels.length = m) (hys : SelRow M G.sels ys) (hx : CV M x c3 c4 c6)
  (hF : FTail B w2 g idx (.slice oa2 m cap1) m ys x c3 c4 c6 w' g2 cap2) :
  GS e B ga gm M w' (gs.set idx ⟨G.key, G.sels ++ [x]⟩) met h0 h1 h2 h3 h4 h5 h6 (some ⟨g, 0, none⟩) cap (vs.set idx (.slice (some ⟨g2, 0, none⟩) (m + 1) cap2)) ∧ Below B w w' := by
 have lga : ga < w.heap.size := (Array.getElem?_eq_some_iff.1 h.row).1
 have hgo : (Value.slice (some ⟨g, 0, none⟩) gs.length cap).ownBlock = some g := rfl
 have lg := h.own.lt g hgo
 obtain ⟨hoga, hogm⟩ := h.offo g hgo
 have hil : idx < gs.length := (List.getElem?_eq_some_iff.1 hG).1
 have hivl : idx < vs.length := by rw [h.len]; exact hil
 -- what is not written stays
 have stay : ∀ k, k < w.heap.size → k ≠ g → (Value.slice oa2 m cap1).ownBlock ≠ some k → w'.heap[k]? = w.heap[k]? := by
  intro k hk h1 h2
  exact (hF.old k (Nat.lt_of_lt_of_le hk hw2.size) h1 (fun e => h2 e.symm)).trans (hw2.block k hk)
 have hsz : w.heap.size ≤ w'.heap.size := Nat.le_trans hw2.size hF.size
 have hsvo : ∀ k, (Value.slice oa2 m cap1).ownBlock = some k → k ≠ ga ∧ k ≠ gm ∧ k ≠ g ∧ B ≤ k ∧ k < w.heap.size := by
  intro k hk
  obtain ⟨a1, a2, a3⟩ := h.off idx _ k hv hk
  obtain ⟨g', _, hr⟩ := h.at hv
  have := hr.lt k hk
  exact ⟨a1, a2, fun e => a3 (by rw [e]; rfl), this.1, this.2⟩
 have hg2 : (g2 ≠ ga ∧ g2 ≠ gm ∧ g2 ≠ g ∧ B ≤ g2) ∧ (∀ i, M g2 i = none) ∧ ∀ (j : Nat) (v : Value), j ≠ idx → vs[j]? = some v → v.ownBlock ≠ some g2 := by
  rcases hF.new with hn | hn
  ·obtain ⟨a1, a2, a3, a4, _⟩ := hsvo g2 hn
   exact ⟨⟨a1, a2, a3, a4⟩, h.fv idx _ g2 hv hn, fun j v hj hjv => h.apart idx j _ _ g2 (Ne.symm hj) hv hjv hn⟩
  ·have hlt : w.heap.size ≤ g2 := Nat.le_trans hw2.size hn
   have hmlt := h.met.lt
   have hle := h.le
   refine ⟨⟨by omega, by omega, by omega, by omega⟩, fun i => cons_lt h.cons hlt i, fun j v hj hjv hk => ?_⟩
   obtain ⟨g', _, hr⟩ := h.at hjv
   have := hr.lt g2 hk
   omega
 obtain ⟨⟨n1, n2, n3, n4⟩, hfree, hother⟩ := hg2
 have hset : ∀ (i : Nat) (v : Value), (vs.set idx (.slice (some ⟨g2, 0, none⟩) (m + 1) cap2))[i]? = some v → (i = idx ∧ v = .slice (some ⟨g2, 0, none⟩) (m + 1) cap2) ∨ (i ≠ idx ∧ vs[i]? = some v) := by
  intro i v hiv
  by_cases e : i = idx
  ·subst e
   rw [List.getElem?_set_self hivl] at hiv
   cases hiv
   exact .inl ⟨rfl, rfl⟩
  ·rw [List.getElem?_set_ne (Ne.symm e)] at hiv
   exact .inr ⟨e, hiv⟩
 have hown : w'.ownsRow B 50 2 (.slice (some ⟨g, 0, none⟩) gs.length cap) gs.length (flatG (zipG (gs.set idx ⟨G.key, G.sels ++ [x]⟩) (vs.set idx (.slice (some ⟨g2, 0, none⟩) (m + 1) cap2)))) := by
  have o2 : w2.ownsRow B 50 2 (.slice (some ⟨g, 0, none⟩) gs.length cap) gs.length (flatG (zipG gs vs)) := own_congr h.own (fun k hk => hw2.block k (h.own.lt k hk).2)
  have o3 := own_setCell o2 (idx * 2 + 1) (.slice (some ⟨g2, 0, none⟩) (m + 1) cap2) (by rw [flatG_len, zipG_len _ _ h.len]; omega)
  rw [flat_set gs vs idx G ⟨G.key, G.sels ++ [x]⟩ undef _ h.len hG rfl]
  exact own_congr o3 (fun k hk => by cases hk; exact hF.row)
 refine ⟨⟨Nat.le_trans h.le hsz, ?_, h.bga, h.bgm, h.ne, ?_, h.rs, h.rd, h.re, h.rt, by simp [h.len], by simpa only [List.length_set] using hown, ?_, ?_, ?_, ?_, ?_, h.fga, h.fgm, ?_, ?_⟩, ?_⟩
 ·refine cons_kept h.cons fun k hk ⟨i, hi⟩ => stay k hk ?_ ?_
  ·rintro rfl; exact hi (h.fo _ hgo i)
  ·intro hk2; exact hi (h.fv idx _ k hv hk2 i)
 ·rw [stay ga lga (Ne.symm hoga) (fun e => (hsvo ga e).1 rfl), List.length_set]; exact h.row
 ·intro i g' v hg' hiv
  rcases hset i v hiv with ⟨rfl, rfl⟩ | ⟨hne, hiv'⟩
  ·rw [List.getElem?_set_self hil] at hg'
   cases hg'
   refine ⟨some ⟨g2, 0, none⟩, cap2, ys ++ xCells x c3 c4 c6, by simp [hm], ?_, hys.snoc hx⟩
   have := hF.own
   simpa [hm] using this
  ·rw [List.getElem?_set_ne (Ne.symm hne)] at hg'
   have hr := h.sub i g' v hg' hiv'
   refine hr.congr (fun _ _ _ h => h) fun k hk => stay k (hr.lt k hk).2 ?_ ?_
   ·rintro rfl; exact (h.off i v _ hiv' hk).2.2 hgo
   ·exact h.apart i idx v _ k hne hiv' hv hk
 ·intro i j v v' k hij hiv hjv hk
  rcases hset i v hiv with ⟨rfl, rfl⟩ | ⟨hne, hiv'⟩
  ·rcases hset j v' hjv with ⟨rfl, rfl⟩ | ⟨hne', hjv'⟩
   ·exact absurd rfl hij
   ·simp only [Value.ownBlock, Option.some.injEq] at hk
    subst hk
    exact hother j v' hne' hjv'
  ·rcases hset j v' hjv with ⟨rfl, rfl⟩ | ⟨hne', hjv'⟩
   ·intro hk'
    simp only [Value.ownBlock, Option.some.injEq] at hk'
    subst hk'
    exact hother i v hne hiv' hk
   ·exact h.apart i j v v' k hij hiv' hjv' hk
 ·intro i v k hiv hk
  rw [List.length_set]
  rcases hset i v hiv with ⟨rfl, rfl⟩ | ⟨hne, hiv'⟩
  ·simp only [Value.ownBlock, Option.some.injEq] at hk ⊢
   subst hk
   exact ⟨n1, n2, fun e => n3 (Option.some.inj e).symm⟩
  ·exact h.off i v k hiv' hk
 ·rw [List.length_set]; exact h.offo
 ·exact h.met.congr (stay gm h.met.lt (Ne.symm hogm) (fun e => (hsvo gm e).2.1 rfl))
 ·rw [List.length_set]; exact h.fo
 ·intro i v k hiv hk
  rcases hset i v hiv with ⟨rfl, rfl⟩ | ⟨hne, hiv'⟩
  ·simp only [Value.ownBlock, Option.some.injEq] at hk
   subst hk
   exact hfree
  ·exact h.fv i v k hiv' hk
 ·refine ⟨hF.os.trans hw2.os, hF.tape.trans hw2.tape, hF.output.trans hw2.output, hsz, fun k hk => stay k (Nat.lt_of_lt_of_le hk h.le) ?_ ?_⟩
  ·have := lg.1; omega
  ·intro e; have := (hsvo k e).2.2.2.1; omega
theorem GS.mid {e : GEnv} {B ga gm : Nat} {M : Mem} {w w3 : World} {gs : List GGroup} {met : List Str} {h0 h1 h2 h3 h4 h5 h6 : Value} {oa : Option Addr} {cap g cap3 : Nat} {vs : List Value} {key : Str}
  (h : GS e B ga gm M w gs met h0 h1 h2 h3 h4 h5 h6 oa cap vs) (hown : w3.ownsRow B 50 2 (.slice (some ⟨g, 0, none⟩) (gs.length + 1) cap3) (gs.length + 1) (flatG (zipG gs vs) ++ [.string ⟨key.toArray⟩, .slice none 0 0]))
  (hat : (Value.slice oa gs.length cap).ownBlock = some g ∨ w.heap.size ≤ g) (hgl : g < w3.heap.size) (hsz : w.heap.size ≤ w3.heap.size) (hos : w3.os = w.os) (htp : w3.tape = w.tape) (hou : w3.output = w.output) (hkeep : ∀ k, k < w.heap.size → some k ≠ (Value.slice oa gs.length cap).ownBlock → w3.heap[k]? = w.heap[k]?) :
  GS e B ga gm M (w3.setCell ⟨ga, 7, none⟩ (.slice (some ⟨g, 0, none⟩) (gs.length + 1) cap3)) (gs ++ [⟨key, []⟩]) met h0 h1 h2 h3 h4 h5 h6 (some ⟨g, 0, none⟩) cap3 (vs ++ [.slice none 0 0]) ∧ Below B w (w3.setCell ⟨ga, 7, none⟩ (.slice (some ⟨g, 0, none⟩) (gs.length + 1) cap3)) := by
 have lga : ga < w.heap.size := (Array.getElem?_eq_some_iff.1 h.row).1
 obtain ⟨w', hw'⟩ : ∃ w', w' = w3.setCell ⟨ga, 7, none⟩ (.slice (some ⟨g, 0, none⟩) (gs.length + 1) cap3) := ⟨_, rfl⟩
 have hs : ∀ k, k ≠ ga → w'.heap[k]? = w3.heap[k]? := fun k hk => by rw [hw']; exact Below.heap_setCell _ _ _ _ hk
 have hz : w'.heap.size = w3.heap.size := by rw [hw']; simp [World.setCell]
 have stay : ∀ k, k < w.heap.size → k ≠ ga → (Value.slice oa gs.length cap).ownBlock ≠ some k → w'.heap[k]? = w.heap[k]? := fun k hk h1 h2 => (hs k h1).trans (hkeep k hk (fun e => h2 e.symm))
 have hga3 : w3.heap[ga]? = w.heap[ga]? := hkeep ga lga (fun e => (h.offo ga e.symm).1 rfl)
 have hgg : g ≠ ga ∧ g ≠ gm ∧ B ≤ g ∧ (∀ i, M g i = none) ∧ ∀ (i : Nat) (v : Value), vs[i]? = some v → v.ownBlock ≠ some g := by
  rcases hat with hn | hn
  ·have := h.offo g hn
   exact ⟨this.1, this.2, (h.own.lt g hn).1, h.fo g hn, fun i v hv hk => (h.off i v g hv hk).2.2 hn⟩
  ·have hmlt := h.met.lt
   have hle := h.le
   refine ⟨by omega, by omega, by omega, fun i => cons_lt h.cons hn i, fun i v hv hk => ?_⟩
   obtain ⟨g', _, hr⟩ := h.at hv
   have := hr.lt g hk
   omega
 obtain ⟨q1, q2, q3, q4, q5⟩ := hgg
 have hlen : (gs ++ [(⟨key, []⟩ : GGroup)]).length = gs.length + 1 := by simp
 have happ : ∀ (i : Nat) (v : Value), (vs ++ [Value.slice none 0 0])[i]? = some v → (i = gs.length ∧ v = .slice none 0 0) ∨ (i < gs.length ∧ vs[i]? = some v) := by
  intro i v hv
  rcases Nat.lt_or_ge i vs.length with hi | hi
  ·rw [List.getElem?_append_left hi] at hv
   exact .inr ⟨by rw [← h.len]; exact hi, hv⟩
  ·rw [List.getElem?_append_right hi] at hv
   have h0 : i - vs.length = 0 := by
    rcases Nat.eq_zero_or_pos (i - vs.length) with h0 | h0
    ·exact h0
    ·rw [List.getElem?_eq_none (by simp; omega)] at hv; cases hv
   rw [h0] at hv
   cases hv
   exact .inl ⟨by have := h.len; omega, rfl⟩
 rw [← hw']
 refine ⟨⟨by rw [hz]; exact Nat.le_trans h.le hsz, ?_, h.bga, h.bgm, h.ne, ?_, h.rs, h.rd, h.re, h.rt, by simp [h.len], ?_, ?_, ?_, ?_, ?_, ?_, h.fga, h.fgm, ?_, ?_⟩, ?_⟩
 ·refine cons_kept h.cons fun k hk ⟨i, hi⟩ => stay k hk ?_ ?_
  ·rintro rfl; exact hi (h.fga i)
  ·intro hk2; exact hi (h.fo k hk2 i)
 ·rw [hlen, hw']
  simp [World.setCell, Array.getElem?_modify, hga3, h.row]
 ·rw [hlen, zipG_app _ _ _ _ h.len, flatG_app]
  refine own_congr hown fun k hk => ?_
  cases hk
  exact hs g q1
 ·intro i g' v hg' hv
  rcases happ i v hv with ⟨rfl, rfl⟩ | ⟨hi, hv'⟩
  ·rw [List.getElem?_append_right (Nat.le_refl _), Nat.sub_self] at hg'
   cases hg'
   exact ⟨none, 0, [], rfl, World.ownsRow_nil _ _ _ _, .nil⟩
  ·rw [List.getElem?_append_left hi] at hg'
   have hr := h.sub i g' v hg' hv'
   exact hr.congr (fun _ _ _ h => h) fun k hk => stay k (hr.lt k hk).2 (h.off i v k hv' hk).1 (h.off i v k hv' hk).2.2
 ·intro i j v v' k hij hv hv' hk
  rcases happ i v hv with ⟨rfl, rfl⟩ | ⟨hi, hv1⟩
  ·simp [Value.ownBlock] at hk
  ·rcases happ j v' hv' with ⟨rfl, rfl⟩ | ⟨hj, hv2⟩
   ·simp [Value.ownBlock]
   ·exact h.apart i j v v' k hij hv1 hv2 hk
 ·intro i v k hv hk
  rcases happ i v hv with ⟨rfl, rfl⟩ | ⟨hi, hv1⟩
  ·simp [Value.ownBlock] at hk
  ·obtain ⟨a1, a2, a3⟩ := h.off i v k hv1 hk
   refine ⟨a1, a2, fun e' => ?_⟩
   simp only [Value.ownBlock, Option.some.injEq] at e'
   subst e'
   exact q5 i v hv1 hk
 ·intro k hk
  simp only [Value.ownBlock, Option.some.injEq] at hk
  subst hk
  exact ⟨q1, q2⟩
 ·exact h.met.congr (stay gm h.met.lt h.ne.symm (fun e' => (h.offo gm e').2 rfl))
 ·intro k hk
  simp only [Value.ownBlock, Option.some.injEq] at hk
  subst hk
  exact q4
 ·intro i v k hv hk
  rcases happ i v hv with ⟨rfl, rfl⟩ | ⟨hi, hv1⟩
  ·simp [Value.ownBlock] at hk
  ·exact h.fv i v k hv1 hk
 ·refine ⟨by rw [hw']; exact hos, by rw [hw']; exact htp, by rw [hw']; exact hou, by rw [hz]; exact hsz, fun k hk => stay k (Nat.lt_of_lt_of_le hk h.le) ?_ ?_⟩
  ·have := h.bga; omega
  ·intro e'
   have := (h.own.lt k e').1
   omega
theorem GS.meet {e : GEnv} {B ga gm : Nat} {M : Mem} {w w' : World} {gs : List GGroup} {met met' : List Str} {h0 h1 h2 h3 h4 h5 h6 : Value} {oa : Option Addr} {cap : Nat} {vs : List Value}
  (h : GS e B ga gm M w gs met h0 h1 h2 h3 h4 h5 h6 oa cap vs) (hm : MetAt w' gm met') (hg : w.grownBy w' (some gm)) : GS e B ga gm M w' gs met' h0 h1 h2 h3 h4 h5 h6 oa cap vs ∧ Below B w w' := by
 have lga : ga < w.heap.size := (Array.getElem?_eq_some_iff.1 h.row).1
 have stay : ∀ k, k < w.heap.size → k ≠ gm → w'.heap[k]? = w.heap[k]? := fun k hk hn => hg.block k hk (fun e => hn (by cases e; rfl))
 refine ⟨⟨Nat.le_trans h.le hg.size, cons_kept h.cons (fun k hk ⟨i, hi⟩ => stay k hk (by rintro rfl; exact hi (h.fgm i))), h.bga, h.bgm, h.ne, (stay ga lga h.ne).trans h.row, h.rs, h.rd, h.re, h.rt, h.len, own_congr h.own (fun k hk => stay k (h.own.lt k hk).2 (h.offo k hk).2), 
  fun i g v hg' hv => (h.sub i g v hg' hv).congr (fun _ _ _ h => h) (fun k hk => stay k ((h.sub i g v hg' hv).lt k hk).2 (h.off i v k hv hk).2.1), h.apart, h.off, h.offo, hm, h.fga, h.fgm, h.fo, h.fv⟩, ⟨hg.os, hg.tape, hg.output, hg.size, fun k hk => stay k (Nat.lt_of_lt_of_le hk h.le) (by have := h.bgm; omega)⟩⟩
inductive RvL (M : Mem) (B : BM) : List PV → List Value → Prop
 | nil : RvL M B [] []
 | cons {c : PV} {v : Value} {cs : List PV} {vs : List Value} (h : Rv M B c v) (t : RvL M B cs vs) : RvL M B (c :: cs) (v :: vs)
theorem rvl_of {M : Mem} {B : BM} : ∀ (cs : List PV) (vs : List Value), vs.length = cs.length → (∀ (i : Nat) (c : PV) (v : Value), cs[i]? = some c → vs[i]? = some v → Rv M B c v) → RvL M B cs vs
 | [], [], _, _ => .nil
 | [], _ :: _, h, _ => by simp at h
 | _ :: _, [], h, _ => by simp at h
 | c :: cs, v :: vs, h, hr => .cons (hr 0 c v rfl rfl) (rvl_of cs vs (by simpa using h) fun i c v h1 h2 => hr (i + 1) c v (by simpa using h1) (by simpa using h2))
theorem rv_agg {M : Mem} {B : BM} {cs : List PV} {v : Value} (h : Rv M B (.agg cs) v) : ∃ l : List Value, v = .agg l.toArray ∧ RvL M B cs l := by
 cases h with
 | agg cs vs f hl hf hr =>
  refine ⟨vs.toList, rfl, rvl_of _ _ (by simpa using hl) fun i c v h1 h2 => ?_⟩
  have hi : i < cs.length := (List.getElem?_eq_some_iff.1 h1).1
  have := hf i hi
  rw [Array.getElem?_toList, this] at h2
  cases h2
  exact hr i c h1
theorem rv_tuple {M : Mem} {B : BM} {cs : List PV} {v : Value} (h : Rv M B (.tuple cs) v) : ∃ l : List Value, v = .tuple l.toArray ∧ RvL M B cs l := by
 cases h with
 | tuple cs vs f hl hf hr =>
  refine ⟨vs.toList, rfl, rvl_of _ _ (by simpa using hl) fun i c v h1 h2 => ?_⟩
  have hi : i < cs.length := (List.getElem?_eq_some_iff.1 h1).1
  have := hf i hi
  rw [Array.getElem?_toList, this] at h2
  cases h2
  exact hr i c h1
theorem rv_selL {M : Mem} {x : GSel} {l : List Value} (h : RvL M noB (encSel x).cells l) : ∃ c3 c4 c6, l = xCells x c3 c4 c6 ∧ CV M x c3 c4 c6 := by
 rw [encSel_eq] at h
 cases h with | cons r0 h =>
 cases h with | cons r1 h =>
 cases h with | cons r2 h =>
 cases h with | cons r3 h =>
 cases h with | cons r4 h =>
 cases h with | cons r5 h =>
 cases h with | cons r6 h =>
 cases h
 cases r0
 cases r1
 cases r2
 cases r5
 exact ⟨_, _, _, rfl, r3, r4, r6⟩
def GSh (e : GEnv) (B ga gm : Nat) (M : Mem) (w : World) (st : GSt) : Prop :=
 (∀ g ∈ st.1, g.sels ≠ []) ∧ ∃ h0 h1 h2 h3 h4 h5 h6 oa cap vs, GS e B ga gm M w st.1 st.2 h0 h1 h2 h3 h4 h5 h6 oa cap vs
theorem GSh.quiet {e : GEnv} {B ga gm : Nat} {M M' : Mem} {w w' : World} {st : GSt} (h : GSh e B ga gm M w st) (q : Quiet M w M' w') (hc : Cons M' w') : GSh e B ga gm M' w' st := by
 obtain ⟨hn, h0, h1, h2, h3, h4, h5, h6, oa, cap, vs, h⟩ := h
 exact ⟨hn, _, _, _, _, _, _, _, _, _, _, h.quiet q hc⟩
structure From (B : Nat) (M : Mem) (w : World) (M' : Mem) (w' : World) : Prop where
 mem : ∀ b i v, M b i = some v → M' b i = some v
 old : ∀ b, b < B → ∀ i, M' b i = M b i
 below : Below B w w'
theorem From.refl (B : Nat) (M : Mem) (w : World) : From B M w M w := ⟨fun _ _ _ h => h, fun _ _ _ => rfl, Below.refl _ _⟩
theorem From.trans {B : Nat} {M M1 M2 : Mem} {w w1 w2 : World} (h : From B M w M1 w1) (k : From B M1 w1 M2 w2) : From B M w M2 w2 :=
 ⟨fun b i v hv => k.mem b i v (h.mem b i v hv), fun b hb i => (k.old b hb i).trans (h.old b hb i), h.below.trans k.below⟩
theorem From.of_quiet {B : Nat} {M M' : Mem} {w w' : World} (q : Quiet M w M' w') (hB : B ≤ w.heap.size) : From B M w M' w' :=
 ⟨q.mem, fun b hb i => (q.old b (Nat.lt_of_lt_of_le hb hB)).2 i, q.os, q.tape, q.output, q.size, fun k hk => (q.old k (Nat.lt_of_lt_of_le hk hB)).1⟩
theorem From.of_below {B : Nat} {M : Mem} {w w' : World} (h : Below B w w') : From B M w M w' := ⟨fun _ _ _ h => h, fun _ _ _ => rfl, h⟩
theorem tot_le : ∀ (l : List GGroup), (∀ g ∈ l, g.sels ≠ []) → l.length ≤ tot l
 | [], _ => Nat.le_refl _
 | g :: l, h => by
  have h1 := tot_le l (fun g hg => h g (by simp [hg]))
  have h2 : 0 < g.sels.length := List.length_pos_iff.2 (h g (by simp))
  simp only [tot, List.length_cons]; omega
theorem tot_mem : ∀ (l : List GGroup) (g : GGroup), g ∈ l → g.sels.length ≤ tot l
 | [], _, h => by simp at h
 | a :: l, g, h => by
  simp only [tot]
  rcases List.mem_cons.1 h with rfl | h
  ·omega
  ·have := tot_mem l g h; omega
theorem field_walk {e : GEnv} {B ga gm : Nat} {M : Mem} {w : World} {st : GSt} (h : GSh e B ga gm M w st) (x : GSel) (c3 c4 c6 : Value) (hx : CV M x c3 c4 c6) (hb : tot st.1 ≤ 1073741824) :
  Calls Try.prog 69 #[.pointer (some ⟨ga, 0, none⟩), .agg #[.int .i64 x.kind, .string ⟨x.alias.toArray⟩, .string ⟨x.name.toArray⟩, c3, c4, .string ⟨x.on_.toArray⟩, c6]] w fun er w' =>
   er = .returned (.tuple #[]) ∧ GSh e B ga gm M w' (putG st.1 (gKey x) x, st.2) ∧ From B M w M w' := by
 obtain ⟨hne, h0, h1, h2, h3, h4, h5, h6, oa, cap, vs, h⟩ := h
 obtain ⟨gs, met⟩ := st
 simp only at hne h hb ⊢
 have hn : gs.length ≤ 1073741824 := Nat.le_trans (tot_le gs hne) hb
 have hs3 := isSlice hx.r3
 have hs4 := isSlice hx.r4
 have hs6 := isSlice hx.r6
 have hput : ∀ g ∈ putG gs (gKey x) x, g.sels ≠ [] := by
  intro g hg
  have key : ∀ (l : List GGroup), (∀ g ∈ l, g.sels ≠ []) → ∀ g ∈ putG l (gKey x) x, g.sels ≠ [] := by
   intro l
   induction l with
   | nil => intro _ g hg; simp only [putG, List.mem_singleton] at hg; subst hg; simp
   | cons a l ih =>
    intro hl g hg
    simp only [putG] at hg
    split at hg
    ·rcases List.mem_cons.1 hg with rfl | hg
     ·simp
     ·exact hl g (by simp [hg])
    ·rcases List.mem_cons.1 hg with rfl | hg
     ·exact hl g (by simp)
     ·exact ih (fun g hg => hl g (by simp [hg])) g hg
  exact key gs hne g hg
 rcases putG_idx (gKey x) x gs vs h.len with ⟨hi, hp⟩ | ⟨idx, G, hi, hG, hp⟩
 ·refine (field_new B gs.length cap oa (zipG gs vs) x c3 c4 c6 ga h0 h1 h2 h3 h4 h5 h6 (.map (some gm)) w h.le hn hs3 hs4 hs6 h.own (fun k hk => (h.offo k hk).1) hi h.row).mono ?_
  rintro er w' ⟨rfl, w3, g, cap3, g2, cap2, k1, k2, k3, k4, k5, k6, k7, k8, hF⟩
  obtain ⟨hm, hbm⟩ := h.mid (key := gKey x) k1 k2 k3 k4 k5 k6 k7 k8
  have hG : (gs ++ [(⟨gKey x, []⟩ : GGroup)])[gs.length]? = some ⟨gKey x, []⟩ := by simp
  have hv : (vs ++ [Value.slice none 0 0])[gs.length]? = some (.slice none 0 0) := by rw [← h.len]; simp
  obtain ⟨ho, hbo⟩ := hm.old (Below.refl _ _) hG hv rfl .nil hx hF
  have hset : (gs ++ [(⟨gKey x, []⟩ : GGroup)]).set gs.length ⟨gKey x, [] ++ [x]⟩ = putG gs (gKey x) x := by rw [hp]; simp
  rw [hset] at ho
  exact ⟨rfl, ⟨hput, _, _, _, _, _, _, _, _, _, _, ho⟩, .of_below (hbm.trans hbo)⟩
 ·have hil : idx < vs.length := by rw [h.len]; exact (List.getElem?_eq_some_iff.1 hG).1
  have hv := List.getElem?_eq_getElem hil
  obtain ⟨oa2, cap1, ys, hve, hvo, hys⟩ := h.sub idx G _ hG hv
  rw [hve] at hv hvo
  have hat := zipG_at gs vs idx G _ hG hv
  obtain ⟨g, rfl, hgB, _, _⟩ := own_cell h.own (flatG_at _ idx _ _ hat).1
  have hm : G.sels.length ≤ 1073741824 := Nat.le_trans (tot_mem gs G (List.mem_of_getElem? hG)) hb
  refine (field_old B gs.length cap g idx G.sels.length cap1 oa2 ys (zipG gs vs) x c3 c4 c6 ga h0 h1 h2 h3 h4 h5 h6 (.map (some gm)) w h.le hn hm hs3 hs4 hs6 h.own (h.offo g rfl).1 hi _ hat hvo (fun k hk => ⟨fun e' => (h.off idx _ k hv hk).2.2 (by rw [e']; rfl), (h.off idx _ k hv hk).1⟩) h.row).mono ?_
  rintro er w' ⟨rfl, w2, g2, cap2, hw2, hF⟩
  obtain ⟨ho, hbo⟩ := h.old hw2 hG hv rfl hys hx hF
  rw [← hp] at ho
  exact ⟨rfl, ⟨hput, _, _, _, _, _, _, _, _, _, _, ho⟩, .of_below hbo⟩
theorem Try.u82 : Try.prog.underlying 82 = some (.map 9 4) := by kernel_rfl
set_option maxRecDepth 100000 in
theorem Try.z4 (w : World) : (zeroValue 4).run Try.prog w = .ok (.bool false) w := by rfl
theorem wpList_met {ops : Array Oper} {rest : List Oper} {o : Oper} {a : Act} {Q : Exit → Act → World → Prop} {w : World} (hg : o.guard = none) (m x v : Operand) (t : TypeId) (hop : o.op = Op.mapUpdate t m x v) (ht : Try.prog.underlying t = some (.map 9 4)) (b : Nat) (met : List Str)
  (hm : a.eval m = .map (some b)) (hmet : MetAt w b met) (hl : met.length < maxLen) (s : Str) (hs : s.length ≤ maxLen) (hx : a.eval x = .string ⟨s.toArray⟩) (hv : a.eval v = .bool true) (hd : a.put o.dst undef = a)
  (hK : ∀ w', MetAt w' b (met ++ [s]) → w.grownBy w' (some b) → wpList Try.prog ops Q rest a w') : wpList Try.prog ops Q (o :: rest) a w := by
 refine wpList_plain hg fun K' hK' => ?_
 obtain ⟨w', hrun, r1, r2⟩ := hmet.update ht hl s hs
 unfold Oper.wp
 simp [execOp, hop, hm, hx, hv, hrun, Result.andThen]
 exact hK' _ _ (by rw [hd]; exact hK w' r1 r2)
theorem rv_aggL {M : Mem} {B : BM} {cs : List PV} {vs : Array Value} (h : Rv M B (.agg cs) (.agg vs)) : RvL M B cs vs.toList := by
 obtain ⟨l, e, hl⟩ := rv_agg h
 cases e
 exact hl
theorem GS.heads {e : GEnv} {B ga gm : Nat} {M : Mem} {w : World} {gs : List GGroup} {met : List Str} {h0 h1 h2 h3 h4 h5 h6 : Value} {oa : Option Addr} {cap : Nat} {vs : List Value} (h : GS e B ga gm M w gs met h0 h1 h2 h3 h4 h5 h6 oa cap vs) :
  (∃ a l k, h0 = .slice a l k) ∧ h1 = .string ⟨e.s.query.toArray⟩ ∧ h2 = .string ⟨e.s.mutation.toArray⟩ ∧ (∃ a l k, h3 = .slice a l k) ∧ (∃ a l k, h4 = .slice a l k) ∧ (∃ a l k, h5 = .slice a l k) ∧ h6 = .string ⟨e.typ.toArray⟩ := by
 have h1 := rv_aggL h.rs
 have h2 := rv_aggL h.rd
 cases h1 with | cons q0 h1 =>
 cases h1 with | cons q1 h1 =>
 cases h1 with | cons q2 h1 =>
 cases h2 with | cons r0 h2 =>
 cases h2 with | cons r1 h2 =>
 have ht := h.rt
 refine ⟨isSlice q0, ?_, ?_, isSlice r0, isSlice r1, isSlice h.re, ?_⟩
 ·cases q1; rfl
 ·cases q2; rfl
 ·cases ht; rfl
theorem GS.cells {e : GEnv} {B ga gm : Nat} {M : Mem} {w : World} {gs : List GGroup} {met : List Str} {h0 h1 h2 h3 h4 h5 h6 : Value} {oa : Option Addr} {cap : Nat} {vs : List Value} (h : GS e B ga gm M w gs met h0 h1 h2 h3 h4 h5 h6 oa cap vs) :
  w.cell? ⟨ga, 0, none⟩ = some h0 ∧ w.cell? ⟨ga, 1, none⟩ = some h1 ∧ w.cell? ⟨ga, 2, none⟩ = some h2 ∧ w.cell? ⟨ga, 3, none⟩ = some h3 ∧ w.cell? ⟨ga, 4, none⟩ = some h4 ∧ w.cell? ⟨ga, 5, none⟩ = some h5 ∧ w.cell? ⟨ga, 6, none⟩ = some h6 ∧ w.cell? ⟨ga, 8, none⟩ = some (.map (some gm)) ∧ ga < w.heap.size := by
 have hr := h.row
 refine ⟨?_, ?_, ?_, ?_, ?_, ?_, ?_, ?_, (Array.getElem?_eq_some_iff.1 hr).1⟩ <;> (rw [cell_of_row w ga _ _ _ _ hr]; rfl)
set_option maxRecDepth 100000 in
theorem frag_call (d : GDoc) (n : Str) (hl : Sm d.frags) {M : Mem} {w : World} (h3 h4 : Value) (hc : Cons M w) (hd : Rv M noB (.agg [(.slice (List.map encOp d.ops) [] false), (.slice (List.map encFrag d.frags) [] false)]) (.agg #[h3, h4])) :
  Calls Try.prog 23 #[.agg #[h3, h4], .string ⟨n.toArray⟩] w fun e w' => ∃ a2 l2 p2 a3 l3 p3 M', e = .returned (.tuple #[.agg #[.string ⟨(gFrag d n).1.name.toArray⟩, .string ⟨(gFrag d n).1.on_.toArray⟩, .slice a2 l2 p2, .slice a3 l3 p3], .bool (gFrag d n).2]) ∧ Rv M' noB (.slice (List.map encSel (gFrag d n).1.sels) [] false) (.slice a3 l3 p3) ∧ Cons M' w' ∧ Quiet M w M' w' := by
 have key := quiet_call pokX xok (graph_Frag_spec (gFrag_ok d n hl)) (M := M) (w := w) (vals := #[.agg #[h3, h4], .string ⟨n.toArray⟩]) rfl hc ⟨rfl, fun i p hp => by
  match i, hp with
  | 0, hp => cases hp; exact ⟨hd, noOwn_of_plain rfl⟩
  | 1, hp => cases hp; exact ⟨.str n, noOwn_of_plain rfl⟩
  | i + 2, hp => simp at hp⟩
 refine key.mono ?_
 rintro e w' ⟨v, M', rfl, hv, hc', hq⟩
 obtain ⟨l, rfl, hl⟩ := rv_tuple hv
 cases hl with | cons r0 hl =>
 cases hl with | cons r1 hl =>
 cases hl
 cases r1
 obtain ⟨l, rfl, hl⟩ := rv_agg (cs := [.str (gFrag d n).1.name, .str (gFrag d n).1.on_, .slice (List.map encDir (gFrag d n).1.dirs) [] false, .slice (List.map encSel (gFrag d n).1.sels) [] false]) r0
 cases hl with | cons q0 hl =>
 cases hl with | cons q1 hl =>
 cases hl with | cons q2 hl =>
 cases hl with | cons q3 hl =>
 cases hl
 cases q0
 cases q1
 obtain ⟨a2, l2, p2, rfl⟩ := isSlice q2
 obtain ⟨a3, l3, p3, rfl⟩ := isSlice q3
 exact ⟨_, _, _, _, _, _, M', rfl, q3, hc', hq⟩
set_option maxRecDepth 100000 in
theorem applies_call (s : GSchema) (typ on0 : Str) (hs : SOk s) {M : Mem} {w : World} (h0 h1 h2 : Value) (hc : Cons M w) (hr : Rv M noB (.agg [(.slice (List.map encDef s.defs) [] false), (.str s.query), (.str s.mutation)]) (.agg #[h0, h1, h2])) :
  Calls Try.prog 22 #[.agg #[h0, h1, h2], .string ⟨typ.toArray⟩, .string ⟨on0.toArray⟩] w fun e w' => ∃ M', e = .returned (.bool (gApplies s typ on0)) ∧ Cons M' w' ∧ Quiet M w M' w' := by
 have key := quiet_call pokX xok (collect_Applies_spec (gApplies_ok s typ on0 hs)) (M := M) (w := w) (vals := #[.agg #[h0, h1, h2], .string ⟨typ.toArray⟩, .string ⟨on0.toArray⟩]) rfl hc ⟨rfl, fun i p hp => by
  match i, hp with
  | 0, hp => cases hp; exact ⟨hr, noOwn_of_plain rfl⟩
  | 1, hp => cases hp; exact ⟨.str typ, noOwn_of_plain rfl⟩
  | 2, hp => cases hp; exact ⟨.str on0, noOwn_of_plain rfl⟩
  | i + 3, hp => simp at hp⟩
 refine key.mono ?_
 rintro e w' ⟨v, M', rfl, hv, hc', hq⟩
 cases hv
 exact ⟨M', rfl, hc', hq⟩
set_option maxRecDepth 100000 in
theorem holds_call (env : List GMember) (l : List GDir) (he : Sm env) (hl : Sm l) (hd : ∀ d ∈ l, Sm d.args) {M : Mem} {w : World} (h5 c4 : Value) (hc : Cons M w) (h5r : Rv M noB (.slice (List.map encMember env) [] false) h5) (h4r : Rv M noB (.slice (List.map encDir l) [] false) c4) :
  Calls Try.prog 15 #[h5, c4] w fun e w' => ∃ M', e = .returned (.bool (gHolds env l)) ∧ Cons M' w' ∧ Quiet M w M' w' := by
 have key := quiet_call pokX xok (collect_Holds_spec (gHolds_ok env l he hl hd)) (M := M) (w := w) (vals := #[h5, c4]) rfl hc ⟨rfl, fun i p hp => by
  match i, hp with
  | 0, hp => cases hp; exact ⟨h5r, noOwn_of_plain rfl⟩
  | 1, hp => cases hp; exact ⟨h4r, noOwn_of_plain rfl⟩
  | i + 2, hp => simp at hp⟩
 refine key.mono ?_
 rintro e w' ⟨v, M', rfl, hv, hc', hq⟩
 cases hv
 exact ⟨M', rfl, hc', hq⟩
noncomputable def tail70 : Code := match Try.f70.body with | some c => dropSeq 3 c | none => .skip
noncomputable def reg70 : Code := fstC tail70
noncomputable def cond70 : Code := sndC tail70
set_option maxHeartbeats 8000000 in
set_option maxRecDepth 100000 in
theorem cond70_walk (Q : Ending → World → Prop) (ga fb : Nat) (b : Bool) (a3 : Option Addr) (l3 p3 : Nat) (w4 : World) (hc3 : w4.cell? ⟨fb, 3, none⟩ = some (.slice a3 l3 p3))
  (h0 : b = false → Q (.returned (.tuple #[])) w4) (h1 : b = true → Calls Try.prog 40 #[.pointer (some ⟨ga, 0, none⟩), .slice a3 l3 p3] w4 fun e w' => e = .returned (.tuple #[]) ∧ Q e w')
  (u1 u2 u3 u5 u6 u7 u8 u9 u10 u11 u12 u13 u14 u15 u16 u17 u18 u19 u20 u21 u22 u23 u24 u25 u26 u27 u28 u29 u30 u31 u32 u33 u34 u35 u36 u37 u38 u40 u41 u42 u43 : Value) :
  Code.wp Try.prog cond70 (bodyPost Try.prog Try.f70 Q) ⟨#[.pointer (some ⟨ga, 0, none⟩), u1, u2, u3, .pointer (some ⟨fb, 0, none⟩), u5, u6, u7, u8, u9, u10, u11, u12, u13, u14, u15, u16, u17, u18, u19, u20, u21, u22, u23, u24, u25, u26, u27, u28, u29, u30, u31, u32, u33, u34, u35, u36, u37, u38, .bool b, u40, u41, u42, u43], []⟩ w4 := by
 obtain ⟨fn, hfn⟩ : ∃ fn, fn = Try.f70 := ⟨_, rfl⟩
 have hres : ∀ (a : Act) (w : World), (results fn a.tmps).run Try.prog w = .ok (.tuple #[]) w := by exact fun a w => results_none (by rw [hfn]; rfl) _ _ _
 rw [← hfn]
 clear hfn
 unfold cond70 tail70
 simp only [Try.f70, dropSeq, fstC, sndC]
 cases b
 ·specialize h0 rfl
  clear h1
  go_wp2
  exact bodyPost_end (hres _ _) rfl h0
 ·specialize h1 rfl
  clear h0
  go_wp2_with (go_at_call 40; refine h1.mono ?_; rintro e' w1 ⟨rfl, hq⟩)
  exact bodyPost_end (hres _ _) rfl hq
set_option maxHeartbeats 8000000 in
set_option maxRecDepth 100000 in
theorem reg70_walk (Q : Ending → World → Prop) (ga fb : Nat) (ok ap : Bool) (a0 : Option Addr) (l0 p0 : Nat) (s1 s2 s6 o : ByteArray) (w3 : World) (P : World → Prop)
  (r0 : w3.cell? ⟨ga, 0, none⟩ = some (.slice a0 l0 p0)) (r1 : w3.cell? ⟨ga, 1, none⟩ = some (.string s1)) (r2 : w3.cell? ⟨ga, 2, none⟩ = some (.string s2)) (r6 : w3.cell? ⟨ga, 6, none⟩ = some (.string s6)) (f1 : w3.cell? ⟨fb, 1, none⟩ = some (.string o))
  (hcall : Calls Try.prog 22 #[.agg #[.slice a0 l0 p0, .string s1, .string s2], .string s6, .string o] w3.drew fun e w' => e = .returned (.bool ap) ∧ P w')
  (K : Act → World → Prop) (hK : ∀ a w, Code.wp Try.prog cond70 (bodyPost Try.prog Try.f70 Q) a w → K a w)
  (hF : ∀ w' (b : Bool) u1 u2 u3 u5 u6 u7 u8 u9 u10 u11 u12 u13 u14 u15 u16 u17 u18 u19 u20 u21 u22 u23 u24 u25 u26 u27 u28 u29 u30 u31 u32 u33 u34 u35 u36 u37 u38 u40 u41 u42 u43, (ok = false ∧ b = false ∧ w' = w3.drew) ∨ (ok = true ∧ b = ap ∧ P w') →
   Code.wp Try.prog cond70 (bodyPost Try.prog Try.f70 Q) ⟨#[.pointer (some ⟨ga, 0, none⟩), u1, u2, u3, .pointer (some ⟨fb, 0, none⟩), u5, u6, u7, u8, u9, u10, u11, u12, u13, u14, u15, u16, u17, u18, u19, u20, u21, u22, u23, u24, u25, u26, u27, u28, u29, u30, u31, u32, u33, u34, u35, u36, u37, u38, .bool b, u40, u41, u42, u43], []⟩ w')
  (u1 u2 u3 u6 u7 u8 u9 u10 u11 u12 u13 u14 u15 u16 u17 u18 u19 u20 u21 u22 u23 u24 u25 u26 u27 u28 u29 u30 u31 u32 u33 u34 u35 u36 u37 u38 u39 u40 u41 u42 u43 : Value) :
  Code.wp Try.prog reg70 (Exit.then K (bodyPost Try.prog Try.f70 Q)) ⟨#[.pointer (some ⟨ga, 0, none⟩), u1, u2, u3, .pointer (some ⟨fb, 0, none⟩), .bool ok, u6, u7, u8, u9, u10, u11, u12, u13, u14, u15, u16, u17, u18, u19, u20, u21, u22, u23, u24, u25, u26, u27, u28, u29, u30, u31, u32, u33, u34, u35, u36, u37, u38, u39, u40, u41, u42, u43], []⟩ w3 := by
 obtain ⟨fn, hfn⟩ : ∃ fn, fn = Try.f70 := ⟨_, rfl⟩
 rw [← hfn] at hK hF ⊢
 clear hfn
 replace hF := (id hF : Hid _)
 replace hK := (id hK : Hid _)
 unfold reg70 tail70
 simp only [Try.f70, dropSeq, fstC]
 cases ok
 ·clear hcall
  go_region
  all_goals exact hK.out _ _ (hF.out _ false _ _ _ _ _ _ _ _ _ _ _ _ _ _ _ _ _ _ _ _ _ _ _ _ _ _ _ _ _ _ _ _ _ _ _ _ _ _ _ _ _ (.inl ⟨rfl, rfl, rfl⟩))
 ·go_region_with (go_at_call 22; refine hcall.mono ?_; rintro e' w4 ⟨rfl, hP⟩)
  all_goals exact hK.out _ _ (hF.out _ ap _ _ _ _ _ _ _ _ _ _ _ _ _ _ _ _ _ _ _ _ _ _ _ _ _ _ _ _ _ _ _ _ _ _ _ _ _ _ _ _ _ (.inr ⟨by trivial, rfl, hP⟩))
set_option maxHeartbeats 8000000 in
set_option maxRecDepth 100000 in
theorem spread_walk {e : GEnv} {B ga gm : Nat} {M : Mem} {w : World} {st s' : GSt} (h : GSh e B ga gm M w st) (name : Str) (hname : name.length ≤ maxLen) (hfr : Sm e.d.frags) (hsok : SOk e.s) (hmet : st.2.length < maxLen)
  (R : List GSel → GSt → Option GSt)
  (hR : ∀ (l : List GSel) (s1 s2 : GSt) (M1 : Mem) (w1 : World) (c : Value), R l s1 = some s2 → GSh e B ga gm M1 w1 s1 → Rv M1 noB (.slice (List.map encSel l) [] false) c → (l = (gFrag e.d name).1.sels ∧ s1 = (st.1, st.2 ++ [name]) ∧ st.2.contains name = false ∧ (gFrag e.d name).2 = true) →
   Calls Try.prog 40 #[.pointer (some ⟨ga, 0, none⟩), c] w1 fun er w' => er = .returned (.tuple #[]) ∧ ∃ M', GSh e B ga gm M' w' s2 ∧ From B M1 w1 M' w')
  (hs : (bif st.2.contains name then some st else bif (gFrag e.d name).2 && gApplies e.s e.typ (gFrag e.d name).1.on_ then R (gFrag e.d name).1.sels (st.1, st.2 ++ [name]) else some (st.1, st.2 ++ [name])) = some s') :
  Calls Try.prog 70 #[.pointer (some ⟨ga, 0, none⟩), .string ⟨name.toArray⟩] w fun er w' =>
   er = .returned (.tuple #[]) ∧ ∃ M', GSh e B ga gm M' w' s' ∧ From B M w M' w' := by
 obtain ⟨hne, h0, h1, h2, h3, h4, h5, h6, oa, cap, vs, hg⟩ := h
 obtain ⟨⟨a0, l0, p0, rfl⟩, rfl, rfl, ⟨b3, m3, n3, rfl⟩, ⟨b4, m4, n4, rfl⟩, ⟨b5, m5, n5, rfl⟩, rfl⟩ := hg.heads
 obtain ⟨k0, k1, k2, k3, k4, k5, k6, k8, klt⟩ := hg.cells
 have hcall := frag_call e.d name hfr _ _ hg.cons hg.rd
 obtain ⟨F, ok, hfr'⟩ : ∃ F ok, gFrag e.d name = (F, ok) := ⟨_, _, rfl⟩
 rw [hfr'] at hcall hs hR
 simp only at hcall hs hR
 clear hfr'
 replace hR := (id hR : Hid _)
 replace hs := (id hs : Hid _)
 clear k0 k1 k2 k5 k6
 go_enter Try.func70, Try.ntmps70
 go_wp2_with (first
  | (go_at_call 23; refine hcall.mono ?_; rintro e' w1 ⟨a2, l2, p2, a3, l3, p3, M1, rfl, hv1, hc1, hq1⟩; clear hcall; have hg1 := hg.quiet hq1 hc1; obtain ⟨q0, q1, q2, q3, q4, q5, q6, q8, qlt⟩ := hg1.cells; clear q0 q1 q2 q3 q4 q5 q6 k3 k4 k8; have hlook : ∀ o, (Instr.lookup 82 (.map (some gm)) (.string ⟨name.toArray⟩) false).run Try.prog (w1.alloc o) = .ok (.bool (st.2.contains name)) (w1.alloc o) := fun o => (hg1.met.congr (heap_alloc_old w1 o hg1.met.lt)).lookup Try.u82 (Try.z4 _) name hname)
  | (at_mapUpdate; have hg2 := hg1.quiet (quiet_below ((Below.refl _ _).alloc (Nat.le_refl _) (.cells #[.string ⟨F.name.toArray⟩, .string ⟨F.on_.toArray⟩, .slice a2 l2 p2, .slice a3 l3 p3] 60))) (cons_below hg1.cons ((Below.refl _ _).alloc (Nat.le_refl _) (.cells #[.string ⟨F.name.toArray⟩, .string ⟨F.on_.toArray⟩, .slice a2 l2 p2, .slice a3 l3 p3] 60))); refine wpList_met rfl _ _ _ 82 rfl Try.u82 gm st.2 rfl hg2.met hmet name hname rfl rfl rfl ?_; intro w3 hm3 hgrow3; have hg3 := hg2.meet hm3 hgrow3; clear hlook))
 ·have hc : st.2.contains name = true := by
   have : name ∈ st.2 := by assumption
   exact List.contains_iff_mem.2 this
  have hs := hs.out
  rw [hc] at hs
  cases hs
  have hb : Below w1.heap.size w1 (w1.alloc (.cells #[.string ⟨F.name.toArray⟩, .string ⟨F.on_.toArray⟩, .slice a2 l2 p2, .slice a3 l3 p3] 60)) := (Below.refl _ _).alloc (Nat.le_refl _) _
  refine bodyPost_ret (results_none (by rfl) _ _ _) rfl ?_
  refine ⟨rfl, M1, ⟨hne, _, _, _, _, _, _, _, _, _, _, hg1.quiet (quiet_below hb) (cons_below hc1 hb)⟩, (From.of_quiet hq1 hg.le).trans (.of_below (hb.mono hg1.le))⟩
 ·have hc : st.2.contains name = false := by
   have : name ∉ st.2 := by assumption
   rw [Bool.eq_false_iff]; exact fun h => this (List.contains_iff_mem.1 h)
  have hs := hs.out
  rw [hc] at hs
  simp only [cond_false] at hs
  have hR := hR.out
  have hK := ‹∀ (a : Act) (w : World), Code.wp Try.prog _ _ a w → _›
  obtain ⟨hg3, hbm⟩ := hg3
  have hb1 : Below w1.heap.size w1 (w1.alloc (.cells #[.string ⟨F.name.toArray⟩, .string ⟨F.on_.toArray⟩, .slice a2 l2 p2, .slice a3 l3 p3] 60)) := (Below.refl _ _).alloc (Nat.le_refl _) _
  have hfrom : From B M w M1 w3 := (From.of_quiet hq1 hg.le).trans ((From.of_below (hb1.mono hg1.le)).trans (.of_below hbm))
  obtain ⟨r0, r1, r2, r3, r4, r5, r6, r8, rlt⟩ := hg3.cells
  have hw3f : w3.heap[w1.heap.size]? = some (.cells #[.string ⟨F.name.toArray⟩, .string ⟨F.on_.toArray⟩, .slice a2 l2 p2, .slice a3 l3 p3] 60 (0, 0)) := (hgrow3.block w1.heap.size (by simp) (by have := hg1.met.lt; simp; omega)).trans (heap_alloc_new w1 _)
  have f1 : w3.cell? ⟨w1.heap.size, 1, none⟩ = some (.string ⟨F.on_.toArray⟩) := by rw [cell_of_row w3 _ _ _ _ _ hw3f]; rfl
  have hd3 : Below w3.heap.size w3 w3.drew := (Below.refl w3.heap.size w3).drew
  have hg3d := hg3.quiet (quiet_below hd3) (cons_below hg3.cons hd3)
  have hlt3 : w1.heap.size < w3.heap.size := (Array.getElem?_eq_some_iff.1 hw3f).1
  refine reg70_walk _ ga w1.heap.size ok (gApplies e.s e.typ F.on_) a0 l0 p0 _ _ _ _ w3 (fun w' => ∃ M4, Cons M4 w' ∧ Quiet M1 w3.drew M4 w') r0 r1 r2 r6 f1 ((applies_call e.s e.typ F.on_ hsok _ _ _ hg3d.cons hg3d.rs).mono ?_) _ hK ?_ _ _ _ _ _ _ _ _ _ _ _ _ _ _ _ _ _ _ _ _ _ _ _ _ _ _ _ _ _ _ _ _ _ _ _ _ _ _ _ _ _
  ·rintro e' w4 ⟨M4, rfl, h1, h2⟩
   exact ⟨rfl, M4, h1, h2⟩
  ·intro w' b u1 u2 u3 u5 u6 u7 u8 u9 u10 u11 u12 u13 u14 u15 u16 u17 u18 u19 u20 u21 u22 u23 u24 u25 u26 u27 u28 u29 u30 u31 u32 u33 u34 u35 u36 u37 u38 u40 u41 u42 u43 hor
   have hM : ∃ M4, Cons M4 w' ∧ Quiet M1 w3.drew M4 w' ∧ b = (ok && gApplies e.s e.typ F.on_) := by
    rcases hor with ⟨rfl, rfl, rfl⟩ | ⟨rfl, rfl, M4, h1, h2⟩
    ·exact ⟨M1, hg3d.cons, Quiet.refl _ _, rfl⟩
    ·exact ⟨M4, h1, h2, rfl⟩
   obtain ⟨M4, hc4, hq4, hb⟩ := hM
   have hg4 := hg3d.quiet hq4 hc4
   have hfrom4 : From B M w M4 w' := (hfrom.trans (.of_below (hd3.mono hg3.le))).trans (From.of_quiet hq4 hg3d.le)
   have hc3 : w'.cell? ⟨w1.heap.size, 3, none⟩ = some (.slice a3 l3 p3) := by
    rw [cell_of_row w' _ _ _ _ _ ((hq4.old w1.heap.size (show w1.heap.size < w3.drew.heap.size from hlt3)).1.trans ((hd3.block _ hlt3).trans hw3f))]; rfl
   refine cond70_walk _ ga w1.heap.size b a3 l3 p3 w' hc3 ?_ ?_ _ _ _ _ _ _ _ _ _ _ _ _ _ _ _ _ _ _ _ _ _ _ _ _ _ _ _ _ _ _ _ _ _ _ _ _ _ _ _ _ _
   ·intro hbf
    rw [← hb, hbf] at hs
    cases hs
    exact ⟨rfl, M4, ⟨hne, _, _, _, _, _, _, _, _, _, _, hg4⟩, hfrom4⟩
   ·intro hbt
    rw [← hb, hbt] at hs
    have hok : ok = true := by
     have h3 := hb.symm.trans hbt
     rw [Bool.and_eq_true] at h3
     exact h3.1
    refine (hR F.sels (st.1, st.2 ++ [name]) s' M4 w' _ hs ⟨hne, _, _, _, _, _, _, _, _, _, _, hg4⟩ ((hv1.mono hq4.mem (fun _ _ _ h => h))) ⟨rfl, rfl, hc, hok⟩).mono ?_
    rintro er w'' ⟨rfl, M5, h5, h6⟩
    exact ⟨rfl, rfl, M5, h5, hfrom4.trans h6⟩
theorem sel_slice {M : Mem} {w : World} {l : List GSel} {c : Value} (hc : Cons M w) (h : Rv M noB (.slice (List.map encSel l) [] false) c) :
  ∃ oa cap, c = .slice oa l.length cap ∧ l.length ≤ cap ∧ (l ≠ [] → ∃ blk off, oa = some ⟨blk, off, none⟩) ∧ ∀ (blk off : Nat), oa = some ⟨blk, off, none⟩ → ∀ (k : Nat) (x : GSel), l[k]? = some x → ∃ c3 c4 c6, CV M x c3 c4 c6 ∧ ∀ (j : Nat) (v : Value), (xCells x c3 c4 c6)[j]? = some v → M blk (off + k * 7 + j) = some v := by
 generalize hes : List.map encSel l = es at h
 cases h with
 | nil o =>
  have : l = [] := by simpa using hes
  subst this
  exact ⟨none, 0, rfl, Nat.le_refl _, fun h => absurd rfl h, fun _ _ h => by simp at h⟩
 | slice es' bs o a cap s f ha hcp ho hel hm hr =>
  have hl : es.length = l.length := by rw [← hes]; simp
  have hle : l.length ≤ cap := by simp at hcp; omega
  refine ⟨some a, cap, by rw [hl], hle, fun hne => ⟨a.block, a.off, by
   have := ha (by have := List.length_pos_iff.2 hne; omega)
   obtain ⟨b, o, s⟩ := a; simp only at this; rw [this]⟩, fun blk off hoa k x hx => ?_⟩
  cases hoa
  have hx' : (es ++ [])[k]? = some (encSel x) := by rw [List.append_nil, ← hes, List.getElem?_map, hx]; rfl
  have hs : s = 7 := by
   have := hel k _ hx'
   obtain ⟨_, _, h3, _⟩ := this
   rw [encSel_eq] at h3
   exact h3.symm
  subst hs
  have hk : k < l.length := (List.getElem?_eq_some_iff.1 hx).1
  have hR : RvL M noB (encSel x).cells [f k 0, f k 1, f k 2, f k 3, f k 4, f k 5, f k 6] := by
   refine rvl_of _ _ (by rw [encSel_eq]; rfl) fun i c v h1 h2 => ?_
   have hi : i < 7 := by have := (List.getElem?_eq_some_iff.1 h2).1; simpa using this
   have := hr k _ i c hx' h1
   match i, hi, h2 with
   | 0, _, h2 => cases h2; exact this
   | 1, _, h2 => cases h2; exact this
   | 2, _, h2 => cases h2; exact this
   | 3, _, h2 => cases h2; exact this
   | 4, _, h2 => cases h2; exact this
   | 5, _, h2 => cases h2; exact this
   | 6, _, h2 => cases h2; exact this
  obtain ⟨c3, c4, c6, e, hcv⟩ := rv_selL hR
  refine ⟨c3, c4, c6, hcv, fun j v hv => ?_⟩
  rw [← e] at hv
  have hj : j < 7 := by have := (List.getElem?_eq_some_iff.1 hv).1; simpa using this
  have := hm k _ j hx' hj
  match j, hj, hv with
  | 0, _, hv => cases hv; exact this
  | 1, _, hv => cases hv; exact this
  | 2, _, hv => cases hv; exact this
  | 3, _, hv => cases hv; exact this
  | 4, _, hv => cases hv; exact this
  | 5, _, hv => cases hv; exact this
  | 6, _, hv => cases hv; exact this
theorem cell_of_mem {M : Mem} {w : World} (hc : Cons M w) {b i : Nat} {v : Value} (h : M b i = some v) : w.cell? ⟨b, i, none⟩ = some v := by
 obtain ⟨arr, T, fz, h1, h2⟩ := hc b i v h
 rw [cell_of_row w b _ _ _ _ h1]; exact h2
theorem step_mono {e : GEnv} {r r' : List GSel → GSt → Option GSt} (h : ∀ l st s, r l st = some s → r' l st = some s) {x : GSel} {st s : GSt} (hs : stepG e r x st = some s) : stepG e r' x st = some s := by
 unfold stepG at hs ⊢
 cases h1 : gHolds e.env x.dirs <;> rw [h1] at hs
 ·exact hs
 cases h2 : x.kind == 0 <;> rw [h2] at hs
 ·cases h3 : x.kind == 1 <;> rw [h3] at hs
  ·cases h4 : x.kind == 2 <;> rw [h4] at hs
   ·exact hs
   ·cases h5 : gApplies e.s e.typ x.on_ <;> rw [h5] at hs
    ·exact hs
    ·exact h _ _ _ hs
  ·cases h4 : st.2.contains x.name <;> rw [h4] at hs
   ·cases h5 : (gFrag e.d x.name).2 && gApplies e.s e.typ (gFrag e.d x.name).1.on_ <;> rw [h5] at hs
    ·exact hs
    ·exact h _ _ _ hs
   ·exact hs
 ·exact hs
theorem thr_succ (e : GEnv) : ∀ (n : Nat) (l : List GSel) (st s : GSt), thr e n l st = some s → thr e (n + 1) l st = some s
 | 0, l, st, s, h => by simp [thr] at h
 | n + 1, [], st, s, h => by simpa [thr] using h
 | n + 1, x :: l, st, s, h => by
  simp only [thr] at h
  obtain ⟨s1, h1, h2⟩ := Ev.bnd_some h
  have e1 := step_mono (thr_succ e n) h1
  show bnd (stepG e (thr e (n + 1)) x st) (fun st => thr e (n + 1) l st) = some s
  rw [e1]
  exact thr_succ e n l s1 s h2
theorem thr_le (e : GEnv) {n m : Nat} (h : n ≤ m) {l : List GSel} {st s : GSt} (ht : thr e n l st = some s) : thr e m l st = some s := by
 induction h with
 | refl => exact ht
 | step _ ih => exact thr_succ e _ _ _ _ ih
theorem thr_det (e : GEnv) {n m : Nat} {l : List GSel} {st s s' : GSt} (h : thr e n l st = some s) (h' : thr e m l st = some s') : s = s' := by
 have h1 := thr_le e (Nat.le_max_left n m) h
 have h2 := thr_le e (Nat.le_max_right n m) h'
 rw [h1] at h2
 exact Option.some.inj h2
theorem thr_app (e : GEnv) : ∀ (n : Nat) (l m : List GSel) (st s' : GSt), thr e n (l ++ m) st = some s' → ∃ s k, thr e n l st = some s ∧ thr e k m s = some s'
 | 0, l, m, st, s', h => by simp [thr] at h
 | n + 1, [], m, st, s', h => ⟨st, n + 1, by simp [thr], h⟩
 | n + 1, x :: l, m, st, s', h => by
  simp only [List.cons_append, thr] at h
  obtain ⟨s1, h1, h2⟩ := Ev.bnd_some h
  obtain ⟨s, k, h3, h4⟩ := thr_app e n l m s1 s' h2
  refine ⟨s, k, ?_, h4⟩
  simp only [thr, h1, bnd]
  exact h3
theorem thr_rel {e : GEnv} (R : GSt → GSt → Prop) (hr : ∀ s, R s s) (ht : ∀ a b c, R a b → R b c → R a c) (hput : ∀ (x : GSel) (st : GSt), gHolds e.env x.dirs = true → x.kind = 0 → R st (putG st.1 (gKey x) x, st.2)) (hmet : ∀ (n : Str) (st : GSt), R st (st.1, st.2 ++ [n])) :
  ∀ (n : Nat) (l : List GSel) (st s : GSt), thr e n l st = some s → R st s
 | 0, l, st, s, h => by simp [thr] at h
 | n + 1, [], st, s, h => by simp only [thr, Option.some.injEq] at h; subst h; exact hr _
 | n + 1, x :: l, st, s, h => by
  simp only [thr] at h
  obtain ⟨s1, h1, h2⟩ := Ev.bnd_some h
  refine ht _ s1 _ ?_ (thr_rel R hr ht hput hmet n l s1 s h2)
  have ih := thr_rel R hr ht hput hmet n
  unfold stepG at h1
  cases hh : gHolds e.env x.dirs <;> rw [hh] at h1
  ·cases h1; exact hr _
  simp only [cond_true] at h1
  cases h0 : x.kind == 0 <;> rw [h0] at h1
  ·simp only [cond_false] at h1
   cases h11 : x.kind == 1 <;> rw [h11] at h1
   ·simp only [cond_false] at h1
    cases h12 : x.kind == 2 <;> rw [h12] at h1
    ·cases h1; exact hr _
    ·simp only [cond_true] at h1
     cases h13 : gApplies e.s e.typ x.on_ <;> rw [h13] at h1
     ·cases h1; exact hr _
     ·exact ih _ _ _ h1
   ·simp only [cond_true] at h1
    cases h12 : st.2.contains x.name <;> rw [h12] at h1
    ·simp only [cond_false] at h1
     cases h13 : (gFrag e.d x.name).2 && gApplies e.s e.typ (gFrag e.d x.name).1.on_ <;> rw [h13] at h1
     ·cases h1; exact hmet _ _
     ·exact ht _ _ _ (hmet _ _) (ih _ _ _ h1)
    ·cases h1; exact hr _
  ·cases h1; exact hput x st hh (by simpa using h0)
structure KeysOk (e : GEnv) (l : List GGroup) : Prop where
 ne : ∀ g ∈ l, g.sels ≠ []
 own : ∀ g ∈ l, ∀ x ∈ g.sels, x.kind = 0 ∧ gKey x = g.key ∧ gHolds e.env x.dirs = true
 once : (l.map (·.key)).Nodup
theorem put_keys (k : Str) (x : GSel) : ∀ l : List GGroup, (putG l k x).map (·.key) = bif (l.map (·.key)).contains k then l.map (·.key) else l.map (·.key) ++ [k]
 | [] => rfl
 | g :: l => by
  simp only [putG]
  by_cases h : g.key = k
  ·rw [if_pos h]; simp [h]
  ·rw [if_neg h]
   have hb : (k == g.key) = false := by simpa using fun e => h e.symm
   simp only [List.map_cons, put_keys k x l, List.contains_cons, hb, Bool.false_or]
   cases (List.map (fun x => x.key) l).contains k <;> rfl
theorem put_mem (k : Str) (x : GSel) : ∀ (l : List GGroup) (g : GGroup), g ∈ putG l k x → g ∈ l ∨ (g.key = k ∧ ∃ s, g.sels = s ++ [x] ∧ (s = [] ∨ ∃ g' ∈ l, g'.key = k ∧ g'.sels = s))
 | [], g, h => by
  simp only [putG, List.mem_singleton] at h
  subst h
  exact .inr ⟨rfl, [], rfl, .inl rfl⟩
 | a :: l, g, h => by
  simp only [putG] at h
  by_cases e : a.key = k
  ·rw [if_pos e] at h
   rcases List.mem_cons.1 h with rfl | h
   ·exact .inr ⟨e, a.sels, rfl, .inr ⟨a, by simp, e, rfl⟩⟩
   ·exact .inl (by simp [h])
  ·rw [if_neg e] at h
   rcases List.mem_cons.1 h with rfl | h
   ·exact .inl (by simp)
   ·rcases put_mem k x l g h with h | ⟨h1, s, h2, h3⟩
    ·exact .inl (by simp [h])
    ·refine .inr ⟨h1, s, h2, ?_⟩
     rcases h3 with h3 | ⟨g', h4, h5⟩
     ·exact .inl h3
     ·exact .inr ⟨g', by simp [h4], h5⟩
theorem keys_put {e : GEnv} {x : GSel} {l : List GGroup} (h : KeysOk e l) (hh : gHolds e.env x.dirs = true) (hk : x.kind = 0) : KeysOk e (putG l (gKey x) x) := by
 refine ⟨fun g hg => ?_, fun g hg y hy => ?_, ?_⟩
 ·rcases put_mem _ _ _ _ hg with h1 | ⟨_, s, h2, _⟩
  ·exact h.ne g h1
  ·rw [h2]; simp
 ·rcases put_mem _ _ _ _ hg with h1 | ⟨h1, s, h2, h3⟩
  ·exact h.own g h1 y hy
  ·rw [h2, List.mem_append, List.mem_singleton] at hy
   rcases hy with hy | rfl
   ·rcases h3 with rfl | ⟨g', h4, h5, rfl⟩
    ·simp at hy
    ·have := h.own g' h4 y hy
     rw [h1, ← h5]; exact this
   ·exact ⟨hk, h1.symm, hh⟩
 ·rw [put_keys]
  cases hc : (l.map (·.key)).contains (gKey x)
  ·rw [cond_false, List.nodup_append]
   refine ⟨h.once, by simp, ?_⟩
   intro a ha b hb
   simp only [List.mem_singleton] at hb
   subst hb
   rintro rfl
   rw [Bool.eq_false_iff] at hc
   exact hc (List.contains_iff_mem.2 ha)
  ·exact h.once
theorem thr_keys {e : GEnv} {n : Nat} {l : List GSel} {met : List Str} {s : GSt} (h : thr e n l ([], met) = some s) : KeysOk e s.1 :=
 thr_rel (fun a b => KeysOk e a.1 → KeysOk e b.1) (fun _ h => h) (fun _ _ _ h k x => k (h x)) (fun x st hh hk h => keys_put h hh hk) (fun _ _ h => h) n l _ _ h ⟨by simp, by simp, by simp⟩
def FrontOf (a b : List GGroup) : Prop := ∀ (i : Nat) (g : GGroup), a[i]? = some g → ∃ g', b[i]? = some g' ∧ g'.key = g.key ∧ ∃ t, g'.sels = g.sels ++ t
theorem FrontOf.refl (a : List GGroup) : FrontOf a a := fun i g h => ⟨g, h, rfl, [], by simp⟩
theorem FrontOf.trans {a b c : List GGroup} (h : FrontOf a b) (k : FrontOf b c) : FrontOf a c := by
 intro i g hg
 obtain ⟨g1, h1, h2, t, h3⟩ := h i g hg
 obtain ⟨g2, k1, k2, u, k3⟩ := k i g1 h1
 exact ⟨g2, k1, k2.trans h2, t ++ u, by rw [k3, h3, List.append_assoc]⟩
theorem front_put (k : Str) (x : GSel) : ∀ l : List GGroup, FrontOf l (putG l k x)
 | [] => fun i g h => by simp at h
 | a :: l => by
  intro i g h
  simp only [putG]
  by_cases e : a.key = k
  ·rw [if_pos e]
   cases i with
   | zero => simp at h; subst h; exact ⟨_, rfl, rfl, [x], rfl⟩
   | succ i => exact ⟨g, by simpa using h, rfl, [], by simp⟩
  ·rw [if_neg e]
   cases i with
   | zero => simp at h; subst h; exact ⟨a, rfl, rfl, [], by simp⟩
   | succ i =>
    obtain ⟨g', h1, h2⟩ := front_put k x l i g (by simpa using h)
    exact ⟨g', by simpa using h1, h2⟩
theorem thr_front {e : GEnv} {n : Nat} {l : List GSel} {st s : GSt} (h : thr e n l st = some s) : FrontOf st.1 s.1 :=
 thr_rel (fun a b => FrontOf a.1 b.1) (fun _ => FrontOf.refl _) (fun _ _ _ => FrontOf.trans) (fun x st _ _ => front_put _ _ _) (fun _ st => FrontOf.refl _) n l st s h
theorem FrontOf.len {a b : List GGroup} (h : FrontOf a b) : a.length ≤ b.length := by
 rcases Nat.eq_zero_or_pos a.length with h0 | h0
 ·omega
 ·obtain ⟨g', h1, _⟩ := h (a.length - 1) a[a.length - 1] (List.getElem?_eq_getElem (by omega))
  have := (List.getElem?_eq_some_iff.1 h1).1
  omega
theorem noGoto_normal {Q : Exit → Act → World → Prop} {a : Act} {w : World} : Exit.noGoto Q .normal a w = Q .normal a w := rfl
def pot (e : GEnv) (st : GSt) : Nat := tot st.1 + unmet e.d.frags st.2 + st.2.length
theorem pot_met {e : GEnv} {gs : List GGroup} {met : List Str} {n : Str} (hm : met.contains n = false) (hf : (gFrag e.d n).2 = true) : pot e (gs, met ++ [n]) + bkSels (gFrag e.d n).1.sels ≤ pot e (gs, met) := by
 unfold gFrag at hf ⊢
 cases hff : e.d.frags.find? (fun f => f.name == n) with
 | none => rw [hff] at hf; simp at hf
 | some f =>
  have := unmet_mem hm hff
  have := bkF_sels f
  simp only [pot, List.length_append, List.length_cons, List.length_nil]; omega
theorem pot_met' {e : GEnv} {gs : List GGroup} {met : List Str} (n : Str) : pot e (gs, met ++ [n]) ≤ pot e (gs, met) + 1 := by
 have := unmet_le n met e.d.frags
 simp only [pot, List.length_append, List.length_cons, List.length_nil]; omega
theorem step_pot {e : GEnv} {r : List GSel → GSt → Option GSt} (hr : ∀ l st s, r l st = some s → pot e s ≤ pot e st + bkSels l) {x : GSel} {st s : GSt} (h : stepG e r x st = some s) : pot e s ≤ pot e st + bkSel x := by
 have hx := bkS_sels x
 unfold stepG at h
 cases h1 : gHolds e.env x.dirs <;> rw [h1] at h
 ·cases h; omega
 cases h2 : x.kind == 0 <;> rw [h2] at h
 ·cases h3 : x.kind == 1 <;> rw [h3] at h
  ·cases h4 : x.kind == 2 <;> rw [h4] at h
   ·cases h; omega
   ·cases h5 : gApplies e.s e.typ x.on_ <;> rw [h5] at h
    ·cases h; omega
    ·have := hr _ _ _ h; omega
  ·cases h4 : st.2.contains x.name <;> rw [h4] at h
   ·cases h5 : (gFrag e.d x.name).2 && gApplies e.s e.typ (gFrag e.d x.name).1.on_ <;> rw [h5] at h
    ·cases h
     have h6 : pot e (st.1, st.2 ++ [x.name]) ≤ pot e st + 1 := pot_met' (e := e) (gs := st.1) (met := st.2) x.name
     omega
    ·have h6 := hr _ _ _ h
     rw [Bool.and_eq_true] at h5
     have := pot_met (e := e) (gs := st.1) h4 h5.1
     have e' : pot e (st.1, st.2) = pot e st := rfl
     omega
   ·cases h; omega
 ·cases h
  simp only [pot, tot_put]
  omega
theorem thr_pot (e : GEnv) : ∀ (n : Nat) (l : List GSel) (st s : GSt), thr e n l st = some s → pot e s ≤ pot e st + bkSels l
 | 0, _, _, _, h => by simp [thr] at h
 | n + 1, [], st, s, h => by simp only [thr, Option.some.injEq] at h; subst h; omega
 | n + 1, x :: l, st, s, h => by
  simp only [thr] at h
  obtain ⟨s1, h1, h2⟩ := Ev.bnd_some h
  have := step_pot (thr_pot e n) h1
  have := thr_pot e n l s1 s h2
  rw [bkS_cons]; omega
set_option maxHeartbeats 8000000 in
set_option maxRecDepth 100000 in
theorem through_step {e : GEnv} {B ga gm C : Nat} (n : Nat) (ih : ∀ (l : List GSel) (st s' : GSt) (M : Mem) (w : World) (c : Value), thr e n l st = some s' → GSh e B ga gm M w st → Rv M noB (.slice (List.map encSel l) [] false) c → bkSels l ≤ C → pot e st + bkSels l ≤ C →
      Calls Try.prog 40 #[.pointer (some ⟨ga, 0, none⟩), c] w fun er w' => er = .returned (.tuple #[]) ∧ ∃ M', GSh e B ga gm M' w' s' ∧ From B M w M' w')
    (hfr : Sm e.d.frags) (hsok : SOk e.s) (henv : Sm e.env) (hdoc : ∀ n, bkSels (gFrag e.d n).1.sels ≤ C)
    (l : List GSel) (st s' : GSt) (M : Mem) (w : World) (c : Value) (h : thr e (n + 1) l st = some s') (hg : GSh e B ga gm M w st) (hc : Rv M noB (.slice (List.map encSel l) [] false) c) (hl : bkSels l ≤ C) (hp : pot e st + bkSels l ≤ C) (hC : C ≤ 536870912) :
    Calls Try.prog 40 #[.pointer (some ⟨ga, 0, none⟩), c] w fun er w' => er = .returned (.tuple #[]) ∧ ∃ M', GSh e B ga gm M' w' s' ∧ From B M w M' w' := by
  obtain ⟨oa, cap, rfl, hcap, hne, hat⟩ := sel_slice (by obtain ⟨_, _, _, _, _, _, _, _, _, _, _, hg⟩ := hg; exact hg.cons) hc
  obtain ⟨N, hN⟩ : ∃ N, l.length = N := ⟨_, rfl⟩
  rw [hN] at hcap ⊢
  by_cases h0 : l = []
  · subst h0
    simp at hN
    subst hN
    simp only [thr, Option.some.injEq] at h
    subst h
    clear hat hne hc ih
    go_enter Try.func40, Try.ntmps40
    go_wp2
    go_step3
    go_wp2
    go_step3
    go_wp2
    refine wp_loop_rounds 1 ?_; rw [rounds_succ]; go_wp2
    rw [noGoto_normal]
    exact bodyPost_end (results_none (by rfl) _ _ _) rfl ⟨rfl, M, hg, From.refl _ _ _⟩
  obtain ⟨blk, off, rfl⟩ := hne h0
  have hat := hat blk off rfl
  have hNb : N ≤ 536870912 := by have := bkSels_len l; omega
  have hxat : ∀ (k : Nat), ∃ x a3 l3 p3 a4 l4 p4 a6 l6 p6, k < N → l[k]? = some x ∧ CV M x (.slice a3 l3 p3) (.slice a4 l4 p4) (.slice a6 l6 p6) ∧ ∀ (j : Nat) (v : Value), (xCells x (.slice a3 l3 p3) (.slice a4 l4 p4) (.slice a6 l6 p6))[j]? = some v → M blk (off + k * 7 + j) = some v := by
    intro k
    by_cases hk : k < N
    · have hx := List.getElem?_eq_getElem (l := l) (i := k) (by omega)
      obtain ⟨c3, c4, c6, h1, h2⟩ := hat k _ hx
      obtain ⟨a3, l3, p3, rfl⟩ := isSlice h1.r3
      obtain ⟨a4, l4, p4, rfl⟩ := isSlice h1.r4
      obtain ⟨a6, l6, p6, rfl⟩ := isSlice h1.r6
      exact ⟨_, a3, l3, p3, a4, l4, p4, a6, l6, p6, fun _ => ⟨hx, h1, h2⟩⟩
    · exact ⟨⟨0, [], [], [], [], [], []⟩, none, 0, 0, none, 0, 0, none, 0, 0, fun h => absurd h hk⟩
  clear hat hne
  replace ih := (id ih : Hid _)
  replace hdoc := (id hdoc : Hid _)
  go_enter Try.func40, Try.ntmps40
  go_wp2
  go_step3
  go_wp2
  go_step3
  go_wp2
  go_loopw [8] (fun t8 wr => ∃ (k m : Nat) (st1 : GSt) (M1 : Mem), k ≤ N ∧ t8 = .int .i64 k ∧ m ≤ n + 1 ∧ thr e m (l.drop k) st1 = some s' ∧ GSh e B ga gm M1 wr st1 ∧ From B M w M1 wr ∧ pot e st1 + bkSels (l.drop k) ≤ C) (fun t8 _ => N - (intOf t8).toNat)
  case atStart => exact ⟨0, n + 1, st, M, Nat.zero_le _, rfl, Nat.le_refl _, h, hg, From.refl _ _ _, hp⟩
  case round =>
    obtain ⟨k, m, st1, M1, hkN, rfl, hmn, hthr, ⟨hne1, h0, h1, h2, h3, h4, h5, h6, oa1, cap1, vs1, hG⟩, hfrom, hpt⟩ := hrel
    obtain ⟨x, a3, l3, p3, a4, l4, p4, a6, l6, p6, hx⟩ := hxat k
    obtain ⟨⟨a0, l0, p0, rfl⟩, rfl, rfl, ⟨b3, m3, n3, rfl⟩, ⟨b4, m4, n4, rfl⟩, ⟨b5, m5, n5, rfl⟩, rfl⟩ := hG.heads
    have hxc : k < N → ∀ (j : Nat) (v : Value), (xCells x (.slice a3 l3 p3) (.slice a4 l4 p4) (.slice a6 l6 p6))[j]? = some v → wr.cell? ⟨blk, off + k * 7 + j, none⟩ = some v := fun hk j v hv => cell_of_mem hG.cons (hfrom.mem _ _ _ ((hx hk).2.2 j v hv))
    have x0 : k < N → wr.cell? ⟨blk, off + k * 7, none⟩ = some (.int .i64 x.kind) := fun hk => hxc hk 0 _ rfl
    have x1 : k < N → wr.cell? ⟨blk, off + k * 7 + 1, none⟩ = some (.string ⟨x.alias.toArray⟩) := fun hk => hxc hk 1 _ rfl
    have x2 : k < N → wr.cell? ⟨blk, off + k * 7 + 2, none⟩ = some (.string ⟨x.name.toArray⟩) := fun hk => hxc hk 2 _ rfl
    have x3 : k < N → wr.cell? ⟨blk, off + k * 7 + 3, none⟩ = some (.slice a3 l3 p3) := fun hk => hxc hk 3 _ rfl
    have x4 : k < N → wr.cell? ⟨blk, off + k * 7 + 4, none⟩ = some (.slice a4 l4 p4) := fun hk => hxc hk 4 _ rfl
    have x5 : k < N → wr.cell? ⟨blk, off + k * 7 + 5, none⟩ = some (.string ⟨x.on_.toArray⟩) := fun hk => hxc hk 5 _ rfl
    have x6 : k < N → wr.cell? ⟨blk, off + k * 7 + 6, none⟩ = some (.slice a6 l6 p6) := fun hk => hxc hk 6 _ rfl
    clear hxc
    replace hxat := (id hxat : Hid _)
    go_wp2
    · rename_i hlt K2 hK2 K1 hK1 K0 hK0
      replace hK2 := (id hK2 : Hid _)
      replace hK1 := (id hK1 : Hid _)
      replace hK0 := (id hK0 : Hid _)
      clear x0 x1 x2 x3 x4 x5 x6
      obtain ⟨hx, hCV, _⟩ := hx hlt
      have hdrop : l.drop k = x :: l.drop (k + 1) := by
        rw [List.drop_eq_getElem_cons (by omega)]
        congr 1
        have := List.getElem?_eq_getElem (l := l) (i := k) (by omega)
        rw [hx] at this
        exact (Option.some.inj this).symm
      rw [hdrop] at hthr hpt
      rw [bkS_cons] at hpt
      obtain ⟨m', rfl⟩ : ∃ m', m = m' + 1 := by
        cases m with
        | zero => simp [thr] at hthr
        | succ m' => exact ⟨m', rfl⟩
      simp only [thr] at hthr
      obtain ⟨s1, hs1, hrest⟩ := Ev.bnd_some hthr
      have hstep : stepG e (thr e n) x st1 = some s1 := step_mono (fun l st s h => thr_le e (by omega) h) hs1
      have hpt1 := step_pot (thr_pot e n) hstep
      have htot : tot st1.1 ≤ 1073741824 := by have : tot st1.1 ≤ pot e st1 := by unfold pot; omega
                                               omega
      have hmet : st1.2.length < maxLen := by
        have : st1.2.length ≤ pot e st1 := by unfold pot; omega
        unfold maxLen; omega
      have hxl : bkSel x ≤ C := Nat.le_trans (bkSels_mem (List.mem_of_getElem? hx)) hl
      have hxsC : bkSels x.sels ≤ C := by have := bkS_sels x; omega
      have hpx : pot e st1 + bkSels x.sels ≤ C := by have := bkS_sels x; omega
      have hxb := hxl
      rw [bkSel_eq] at hxb
      have hname : x.name.length ≤ maxLen := by unfold maxLen; simp only [bkStr] at hxb; omega
      have hdirs : Sm x.dirs := by
        have := sl_len (f := bkDir) (fun d => by rw [bkDir_eq]; omega) x.dirs
        show x.dirs.length < _; omega
      have hdargs : ∀ d ∈ x.dirs, Sm d.args := by
        intro d hd
        have h1 := sl_mem (f := bkDir) hd
        rw [bkDir_eq] at h1
        have h2 := sl_len (f := bkMember) (fun d => by rw [bkMember_eq, bkValue_eq]; omega) d.args
        show d.args.length < _; omega
      have fin : Hid (∀ (M' : Mem) (w' : World) (v5 v9 v10 v11 v12 v13 v14 v15 v16 v17 v18 v19 v20 v21 v22 v23 v24 v25 v26 v27 v28 v29 v30 v31 v32 v33 v34 v35 v36 v37 v38 v39 v40 v41 v42 v43 v44 v45 v46 v47 v48 v49 v50 : Value), GSh e B ga gm M' w' s1 → From B M1 wr M' w' → K2 ⟨#[.pointer (some ⟨ga, 0, none⟩), .slice (some ⟨blk, off, none⟩) N cap, undef, undef, undef, v5, .slice (some ⟨blk, off, none⟩) N cap, .int .i64 N, .int .i64 k, v9, v10, v11, v12, v13, v14, v15, v16, v17, v18, v19, v20, v21, v22, v23, v24, v25, v26, v27, v28, v29, v30, v31, v32, v33, v34, v35, v36, v37, v38, v39, v40, v41, v42, v43, v44, v45, v46, v47, v48, v49, v50], []⟩ w') := by
        intro M' w' v5 v9 v10 v11 v12 v13 v14 v15 v16 v17 v18 v19 v20 v21 v22 v23 v24 v25 v26 v27 v28 v29 v30 v31 v32 v33 v34 v35 v36 v37 v38 v39 v40 v41 v42 v43 v44 v45 v46 v47 v48 v49 v50 hg' hf'
        refine hK2.out _ _ ?_
        go_wp2
        go_roundw
        case rel => exact ⟨k + 1, m', s1, M', by omega, by go_num, by omega, hrest, hg', hfrom.trans hf', by omega⟩
        case measure => simp [intOf]; omega
      clear hthr hs1 hrest hdrop
      replace hstep := (id hstep : Hid _)
      have hb1 : Below wr.heap.size wr (wr.alloc (.cells #[.int .i64 x.kind, .string ⟨x.alias.toArray⟩, .string ⟨x.name.toArray⟩, .slice a3 l3 p3, .slice a4 l4 p4, .string ⟨x.on_.toArray⟩, .slice a6 l6 p6] 41)) := (Below.refl _ _).alloc (Nat.le_refl _) _
      have hXat : XAt (wr.alloc (.cells #[.int .i64 x.kind, .string ⟨x.alias.toArray⟩, .string ⟨x.name.toArray⟩, .slice a3 l3 p3, .slice a4 l4 p4, .string ⟨x.on_.toArray⟩, .slice a6 l6 p6] 41)) wr.heap.size x (.slice a3 l3 p3) (.slice a4 l4 p4) (.slice a6 l6 p6) := heap_alloc_new wr _
      obtain ⟨w1, hw1⟩ : ∃ w1, w1 = wr.alloc (.cells #[.int .i64 x.kind, .string ⟨x.alias.toArray⟩, .string ⟨x.name.toArray⟩, .slice a3 l3 p3, .slice a4 l4 p4, .string ⟨x.on_.toArray⟩, .slice a6 l6 p6] 41) := ⟨_, rfl⟩
      rw [← hw1] at hb1 hXat ⊢
      clear hw1
      have hG1 := hG.quiet (quiet_below hb1) (cons_below hG.cons hb1)
      have hd1 : Below w1.heap.size w1 w1.drew := (Below.refl w1.heap.size w1).drew
      have hG1d := hG1.quiet (quiet_below hd1) (cons_below hG1.cons hd1)
      have hCV1 := hCV.mono hfrom.mem
      have after : Hid (∀ (w2 : World) (M2 : Mem) (v9 v10 v11 v12 v13 v14 v15 v16 v17 v18 v20 v21 v22 v23 v24 v25 v26 v27 v28 v29 v30 v31 v32 v33 v34 v35 v36 v37 v38 v39 v40 v41 v42 v43 v44 v45 v46 v47 v48 v49 v50 : Value), Cons M2 w2 → Quiet M1 w1.drew M2 w2 → K0 ⟨#[.pointer (some ⟨ga, 0, none⟩), .slice (some ⟨blk, off, none⟩) N cap, undef, undef, undef, .pointer (some ⟨wr.heap.size, 0, none⟩), .slice (some ⟨blk, off, none⟩) N cap, .int .i64 N, .int .i64 k, v9, v10, v11, v12, v13, v14, v15, v16, v17, v18, .bool (!gHolds e.env x.dirs), v20, v21, v22, v23, v24, v25, v26, v27, v28, v29, v30, v31, v32, v33, v34, v35, v36, v37, v38, v39, v40, v41, v42, v43, v44, v45, v46, v47, v48, v49, v50], []⟩ w2) := by
        intro w2 M2 v9 v10 v11 v12 v13 v14 v15 v16 v17 v18 v20 v21 v22 v23 v24 v25 v26 v27 v28 v29 v30 v31 v32 v33 v34 v35 v36 v37 v38 v39 v40 v41 v42 v43 v44 v45 v46 v47 v48 v49 v50 hc2 hq2
        refine hK0.out _ _ ?_
        have hG2 := hG1d.quiet hq2 hc2
        have hg2 : GSh e B ga gm M2 w2 st1 := ⟨hne1, _, _, _, _, _, _, _, _, _, _, hG2⟩
        have hf2 : From B M1 wr M2 w2 := (From.of_below (hb1.mono hG.le)).trans ((From.of_below (hd1.mono hG1.le)).trans (From.of_quiet hq2 hG1d.le))
        have hlt1 : wr.heap.size < w1.heap.size := (Array.getElem?_eq_some_iff.1 hXat).1
        have hX2 : XAt w2 wr.heap.size x (.slice a3 l3 p3) (.slice a4 l4 p4) (.slice a6 l6 p6) := (hq2.old wr.heap.size hlt1).1.trans ((hd1.block _ hlt1).trans hXat)
        have hCV2 := hCV1.mono hq2.mem
        obtain ⟨q0, q1, q2, q3, q4, q5, q6⟩ := hX2.cells
        have hstep := hstep.out
        unfold stepG at hstep
        cases hh : gHolds e.env x.dirs
        · rw [hh] at hstep
          cases hstep
          clear hG2 hG1 hG1d hG hX2 hXat q0 q1 q2 q3 q4 q5 q6
          go_wp2
          exact fin.out M2 w2 _ _ _ _ _ _ _ _ _ _ _ _ _ _ _ _ _ _ _ _ _ _ _ _ _ _ _ _ _ _ _ _ _ _ _ _ _ _ _ _ _ _ _ hg2 hf2
        · rw [hh] at hstep
          simp only [cond_true] at hstep
          replace hstep := (id hstep : Hid _)
          clear hG1 hG1d hG
          go_wp2
          refine hK1.out _ _ ?_
          have hR : ∀ (l2 : List GSel) (s2 s3 : GSt) (M3 : Mem) (w3 : World) (c : Value), thr e n l2 s2 = some s3 → GSh e B ga gm M3 w3 s2 → Rv M3 noB (.slice (List.map encSel l2) [] false) c → (l2 = (gFrag e.d x.name).1.sels ∧ s2 = (st1.1, st1.2 ++ [x.name]) ∧ st1.2.contains x.name = false ∧ (gFrag e.d x.name).2 = true) →
              Calls Try.prog 40 #[.pointer (some ⟨ga, 0, none⟩), c] w3 fun er w' => er = .returned (.tuple #[]) ∧ ∃ M', GSh e B ga gm M' w' s3 ∧ From B M3 w3 M' w' := by
            rintro l2 s2 s3 M3 w3 c h1 h2 h3 ⟨rfl, rfl, h4, h5⟩
            have := pot_met (e := e) (gs := st1.1) h4 h5
            have e' : pot e (st1.1, st1.2) = pot e st1 := rfl
            exact ih.out _ _ _ M3 w3 c h1 h2 h3 (hdoc.out x.name) (by omega)
          have hstepS : (x.kind == 0) = false → (x.kind == 1) = true → (bif st1.2.contains x.name then some st1 else bif (gFrag e.d x.name).2 && gApplies e.s e.typ (gFrag e.d x.name).1.on_ then thr e n (gFrag e.d x.name).1.sels (st1.1, st1.2 ++ [x.name]) else some (st1.1, st1.2 ++ [x.name])) = some s1 := by
            intro h1 h2
            have := hstep.out
            rw [h1, h2] at this
            exact this
          replace hR := (id hR : Hid _)
          replace hstepS := (id hstepS : Hid _)
          go_wp2_with (first | (go_at_call 69; refine (field_walk hg2 x _ _ _ hCV2 htot).mono ?_; rintro e' w3 ⟨rfl, hg3, hf3⟩) | (go_at_call 70; refine (spread_walk hg2 x.name hname hfr hsok hmet (thr e n) hR.out (hstepS.out (by assumption) (by assumption))).mono ?_; rintro e' w3 ⟨rfl, M3, hg3, hf3⟩))
          · have h0 : (x.kind == 0) = true := by assumption
            have hs := hstep.out
            rw [h0] at hs
            cases hs
            exact fin.out M2 w3 _ _ _ _ _ _ _ _ _ _ _ _ _ _ _ _ _ _ _ _ _ _ _ _ _ _ _ _ _ _ _ _ _ _ _ _ _ _ _ _ _ _ _ hg3 (hf2.trans hf3)
          · exact fin.out M3 w3 _ _ _ _ _ _ _ _ _ _ _ _ _ _ _ _ _ _ _ _ _ _ _ _ _ _ _ _ _ _ _ _ _ _ _ _ _ _ _ _ _ _ _ hg3 (hf2.trans hf3)
          · rename_i h0 h1 h2 K3 hK3
            have hs := hstep.out
            rw [h0, h1, h2] at hs
            simp only [cond_false, cond_true] at hs
            replace hK3 := (id hK3 : Hid _)
            have hd2 : Below w2.heap.size w2 w2.drew := (Below.refl w2.heap.size w2).drew
            have hG2d := hG2.quiet (quiet_below hd2) (cons_below hG2.cons hd2)
            have after2 : Hid (∀ (w3 : World) (M3 : Mem) (v9 v10 v11 v12 v13 v14 v15 v16 v17 v18 v19 v20 v21 v22 v23 v24 v25 v26 v27 v28 v29 v30 v31 v32 v33 v34 v35 v36 v37 v38 v39 v40 v41 v42 v43 v44 v46 v47 v48 v49 v50 : Value), Cons M3 w3 → Quiet M2 w2.drew M3 w3 → K3 ⟨#[.pointer (some ⟨ga, 0, none⟩), .slice (some ⟨blk, off, none⟩) N cap, undef, undef, undef, .pointer (some ⟨wr.heap.size, 0, none⟩), .slice (some ⟨blk, off, none⟩) N cap, .int .i64 N, .int .i64 k, v9, v10, v11, v12, v13, v14, v15, v16, v17, v18, v19, v20, v21, v22, v23, v24, v25, v26, v27, v28, v29, v30, v31, v32, v33, v34, v35, v36, v37, v38, v39, v40, v41, v42, v43, v44, .bool (gApplies e.s e.typ x.on_), v46, v47, v48, v49, v50], []⟩ w3) := by
              intro w3 M3 v9 v10 v11 v12 v13 v14 v15 v16 v17 v18 v19 v20 v21 v22 v23 v24 v25 v26 v27 v28 v29 v30 v31 v32 v33 v34 v35 v36 v37 v38 v39 v40 v41 v42 v43 v44 v46 v47 v48 v49 v50 hc3 hq3
              refine hK3.out _ _ ?_
              have hG3 := hG2d.quiet hq3 hc3
              have hg3 : GSh e B ga gm M3 w3 st1 := ⟨hne1, _, _, _, _, _, _, _, _, _, _, hG3⟩
              have hf3 : From B M1 wr M3 w3 := hf2.trans ((From.of_below (hd2.mono hG2.le)).trans (From.of_quiet hq3 hG2d.le))
              have hlt2 : wr.heap.size < w2.heap.size := (Array.getElem?_eq_some_iff.1 hX2).1
              have hX3 : XAt w3 wr.heap.size x (.slice a3 l3 p3) (.slice a4 l4 p4) (.slice a6 l6 p6) := (hq3.old wr.heap.size hlt2).1.trans ((hd2.block _ hlt2).trans hX2)
              have hCV3 := hCV2.mono hq3.mem
              obtain ⟨r0, r1, r2, r3, r4, r5, r6⟩ := hX3.cells
              clear q0 q1 q2 q3 q4 q5 q6 r0 r1 r2 r3 r4 r5 hG2 hG2d hX2 hXat
              cases ha : gApplies e.s e.typ x.on_
              · rw [ha] at hs
                cases hs
                go_wp2
                exact fin.out M3 w3 _ _ _ _ _ _ _ _ _ _ _ _ _ _ _ _ _ _ _ _ _ _ _ _ _ _ _ _ _ _ _ _ _ _ _ _ _ _ _ _ _ _ _ hg3 hf3
              · rw [ha] at hs
                simp only [cond_true] at hs
                have hih := ih.out x.sels st1 s1 M3 w3 _ hs hg3 hCV3.r6 hxsC hpx
                go_wp2_with (go_at_call 40; refine hih.mono ?_; rintro e' w4 ⟨rfl, M4, hg4, hf4⟩)
                exact fin.out M4 w4 _ _ _ _ _ _ _ _ _ _ _ _ _ _ _ _ _ _ _ _ _ _ _ _ _ _ _ _ _ _ _ _ _ _ _ _ _ _ _ _ _ _ _ hg4 (hf3.trans hf4)
            obtain ⟨g0, g1, g2, g3, g4, g5, g6, g8, glt⟩ := hG2.cells
            have hcall2 := applies_call e.s e.typ x.on_ hsok _ _ _ hG2d.cons hG2d.rs
            clear g3 g4 g5 g8 q0 q1 q2 q3 q4 q6
            go_region_with (go_at_call 22; refine hcall2.mono ?_; rintro e' w3 ⟨M3, rfl, hc3, hq3⟩)
            all_goals exact after2.out _ M3 _ _ _ _ _ _ _ _ _ _ _ _ _ _ _ _ _ _ _ _ _ _ _ _ _ _ _ _ _ _ _ _ _ _ _ _ _ _ _ _ _ hc3 hq3
          · have h0 : (x.kind == 0) = false := by assumption
            have h1 : (x.kind == 1) = false := by assumption
            have h2 : (x.kind == 2) = false := by assumption
            have hs := hstep.out
            rw [h0, h1, h2] at hs
            cases hs
            exact fin.out M2 w2 _ _ _ _ _ _ _ _ _ _ _ _ _ _ _ _ _ _ _ _ _ _ _ _ _ _ _ _ _ _ _ _ _ _ _ _ _ _ _ _ _ _ _ hg2 hf2
      obtain ⟨g0, g1, g2, g3, g4, g5, g6, g8, glt⟩ := hG1.cells
      obtain ⟨q0, q1, q2, q3, q4, q5, q6⟩ := hXat.cells
      have hcall := holds_call e.env x.dirs henv hdirs hdargs _ _ hG1d.cons hG1d.re hCV1.r4
      clear g0 g1 g2 g3 g4 g6 g8 q0 q1 q2 q3 q5 q6
      go_region_with (go_at_call 15; refine hcall.mono ?_; rintro e' w2 ⟨M2, rfl, hc2, hq2⟩)
      all_goals exact after.out _ M2 _ _ _ _ _ _ _ _ _ _ _ _ _ _ _ _ _ _ _ _ _ _ _ _ _ _ _ _ _ _ _ _ _ _ _ _ _ _ _ _ _ hc2 hq2
    · have hge : ¬ k < N := by assumption
      rw [List.drop_eq_nil_of_le (by omega)] at hthr
      have hs : st1 = s' := by
        cases m with
        | zero => simp [thr] at hthr
        | succ m' => simpa [thr] using hthr
      subst hs
      rw [noGoto_normal]
      exact bodyPost_end (results_none (by rfl) _ _ _) rfl ⟨rfl, M1, ⟨hne1, _, _, _, _, _, _, _, _, _, _, hG⟩, hfrom⟩
theorem through_walk {e : GEnv} {B ga gm C : Nat} (hfr : Sm e.d.frags) (hsok : SOk e.s) (henv : Sm e.env) (hdoc : ∀ n, bkSels (gFrag e.d n).1.sels ≤ C) (hC : C ≤ 536870912) : ∀ (n : Nat) (l : List GSel) (st s' : GSt) (M : Mem) (w : World) (c : Value), thr e n l st = some s' → GSh e B ga gm M w st → Rv M noB (.slice (List.map encSel l) [] false) c → bkSels l ≤ C → pot e st + bkSels l ≤ C →
   Calls Try.prog 40 #[.pointer (some ⟨ga, 0, none⟩), c] w fun er w' => er = .returned (.tuple #[]) ∧ ∃ M', GSh e B ga gm M' w' s' ∧ From B M w M' w'
 | 0, l, st, s', M, w, c, h, _, _, _, _ => by simp [thr] at h
 | n + 1, l, st, s', M, w, c, h, hg, hc, hl, hp => through_step n (through_walk hfr hsok henv hdoc hC n) hfr hsok henv hdoc l st s' M w c h hg hc hl hp hC
def frzM (B : Nat) (M : Mem) (w : World) : Mem := fun b i => if B ≤ b then (match w.heap[b]? with | some (.cells arr _ _) => arr[i]? | _ => none) else M b i
theorem frzM_cons {B : Nat} {M : Mem} {w : World} (h : Cons M w) : Cons (frzM B M w) w := by
 intro b i v hv
 unfold frzM at hv
 split at hv
 ·split at hv
  ·rename_i arr T fz hb
   exact ⟨arr, T, fz, hb, hv⟩
  ·simp at hv
 ·exact h b i v hv
theorem frzM_mono {B : Nat} {M : Mem} {w : World} (h : Cons M w) : ∀ b i v, M b i = some v → frzM B M w b i = some v := by
 intro b i v hv
 unfold frzM
 split
 ·obtain ⟨arr, T, fz, h1, h2⟩ := h b i v hv
  rw [h1]; exact h2
 ·exact hv
theorem frzM_old {B : Nat} {M : Mem} {w : World} {b : Nat} (h : b < B) (i : Nat) : frzM B M w b i = M b i := by
 unfold frzM; rw [if_neg (by omega)]
theorem own_frz {B B' e size n : Nat} {M : Mem} {BB : BM} {w : World} {v : Value} {xs : List Value} (h : w.ownsRow B' e size v n xs) (hB : B ≤ B') (es : List PV) (hn : es.length = n) (hok : ∀ p ∈ es, okEl size p) (hr : ∀ (i : Nat) (p : PV) (j : Nat) (c : PV), es[i]? = some p → p.cells[j]? = some c → ∃ u, xs[i * size + j]? = some u ∧ Rv (frzM B M w) BB c u) :
  Rv (frzM B M w) BB (.slice es [] false) v := by
 rcases h.2 with ⟨rfl, h0⟩ | ⟨g, cap, cur, rfl, hb, hg, hcap, hmax, hcs, htk⟩
 ·have : es = [] := List.eq_nil_of_length_eq_zero (by omega)
  subst this
  exact .nil false
 ·subst hn
  refine .slice es [] false ⟨g, 0, none⟩ cap size (fun i j => (xs[i * size + j]?).getD undef) (fun _ => rfl) (by simpa using hcap) (by simp) ?_ ?_ ?_
  ·intro i p hp
   exact hok p (List.mem_of_getElem? (by simpa using hp))
  ·intro i p j hp hj
   rw [List.append_nil] at hp
   obtain ⟨_, _, hc, _⟩ := hok p (List.mem_of_getElem? hp)
   obtain ⟨u, hu, _⟩ := hr i p j (p.cells[j]'(by omega)) hp (List.getElem?_eq_getElem (by omega))
   rw [hu, Option.getD_some]
   unfold frzM
   rw [if_pos (by show B ≤ g; omega)]
   show (match w.heap[g]? with | some (.cells arr _ _) => arr[0 + i * size + j]? | _ => none) = some u
   rw [hg]
   simp only [Nat.zero_add]
   rw [← htk, List.getElem?_take] at hu
   split at hu
   ·simpa using hu
   ·simp at hu
  ·intro i p j c hp hc
   rw [List.append_nil] at hp
   obtain ⟨u, hu, hv⟩ := hr i p j c hp hc
   rw [hu]; exact hv
theorem selRow_len {M : Mem} {l : List GSel} {ys : List Value} (h : SelRow M l ys) : ys.length = l.length * 7 := by
 induction h with
 | nil => rfl
 | snoc h hc ih => simp only [List.length_append, ih, List.length_cons, List.length_nil]; omega
theorem selRow_at {M : Mem} {l : List GSel} {ys : List Value} (h : SelRow M l ys) : ∀ (i : Nat) (x : GSel), l[i]? = some x → ∀ (j : Nat) (c : PV), (encSel x).cells[j]? = some c → ∃ u, ys[i * 7 + j]? = some u ∧ Rv M noB c u := by
 induction h with
 | nil => intro i x h; simp at h
 | @snoc l ys x c3 c4 c6 h hc ih =>
  intro i x' hi j c hj
  have hyl := selRow_len h
  have hjl : j < 7 := by
   have := (List.getElem?_eq_some_iff.1 hj).1
   rw [encSel_eq] at this
   exact this
  rcases Nat.lt_or_ge i l.length with hlt | hge
  ·rw [List.getElem?_append_left hlt] at hi
   obtain ⟨u, h1, h2⟩ := ih i x' hi j c hj
   exact ⟨u, by rw [List.getElem?_append_left (by omega)]; exact h1, h2⟩
  ·rw [List.getElem?_append_right hge] at hi
   have h0 : i - l.length = 0 := by
    rcases Nat.eq_zero_or_pos (i - l.length) with h0 | h0
    ·exact h0
    ·rw [List.getElem?_eq_none (by simp; omega)] at hi; cases hi
   rw [h0] at hi
   cases hi
   have hil : i = l.length := by omega
   subst hil
   rw [List.getElem?_append_right (by omega), show l.length * 7 + j - ys.length = j by omega]
   rw [encSel_eq] at hj
   match j, hjl, hj with
   | 0, _, hj => cases hj; exact ⟨_, rfl, .int _ _⟩
   | 1, _, hj => cases hj; exact ⟨_, rfl, .str _⟩
   | 2, _, hj => cases hj; exact ⟨_, rfl, .str _⟩
   | 3, _, hj => cases hj; exact ⟨_, rfl, hc.r3⟩
   | 4, _, hj => cases hj; exact ⟨_, rfl, hc.r4⟩
   | 5, _, hj => cases hj; exact ⟨_, rfl, .str _⟩
   | 6, _, hj => cases hj; exact ⟨_, rfl, hc.r6⟩
theorem selRow_frz {M : Mem} {B B' : Nat} {BB : BM} {w : World} {l : List GSel} {v : Value} (h : GRow M B' w l v) (hB : B ≤ B') (hc : Cons M w) : Rv (frzM B M w) BB (.slice (List.map encSel l) [] false) v := by
 obtain ⟨oa, cap, ys, hv, ho, hs⟩ := h
 refine own_frz ho hB _ (by simp) ?_ ?_
 ·intro p hp
  obtain ⟨x, _, rfl⟩ := List.mem_map.1 hp
  rw [encSel_eq]
  exact ⟨rfl, rfl, rfl, by decide⟩
 ·intro i p j c hp hcc
  rw [List.getElem?_map] at hp
  cases hx : l[i]? with
  | none => rw [hx] at hp; simp at hp
  | some x =>
   rw [hx] at hp
   simp only [Option.map_some, Option.some.injEq] at hp
   subst hp
   obtain ⟨u, h1, h2⟩ := selRow_at hs i x hx j c hcc
   refine ⟨u, h1, ((h2.mono (frzM_mono hc) (fun _ _ _ h => h)).anyB1 BB ?_)⟩
   have hok : okEl 7 (encSel x) := by rw [encSel_eq]; exact ⟨rfl, rfl, rfl, by decide⟩
   exact hok.cell hcc
theorem gs_frz {e : GEnv} {B ga gm : Nat} {M : Mem} {w : World} {gs : List GGroup} {met : List Str} {h0 h1 h2 h3 h4 h5 h6 : Value} {oa : Option Addr} {cap : Nat} {vs : List Value} (h : GS e B ga gm M w gs met h0 h1 h2 h3 h4 h5 h6 oa cap vs) (BB : BM) :
  Rv (frzM B M w) BB (.slice (List.map encGroup gs) [] false) (.slice oa gs.length cap) := by
 refine own_frz h.own (Nat.le_refl _) _ (by simp) ?_ ?_
 ·intro p hp
  obtain ⟨x, _, rfl⟩ := List.mem_map.1 hp
  exact ⟨rfl, rfl, rfl, by decide⟩
 ·intro i p j c hp hcc
  rw [List.getElem?_map] at hp
  cases hx : gs[i]? with
  | none => rw [hx] at hp; simp at hp
  | some x =>
   rw [hx] at hp
   simp only [Option.map_some, Option.some.injEq] at hp
   subst hp
   have hi : i < vs.length := by rw [h.len]; exact (List.getElem?_eq_some_iff.1 hx).1
   have hv := List.getElem?_eq_getElem hi
   obtain ⟨f1, f2⟩ := flatG_at _ i _ _ (zipG_at gs vs i x vs[i] hx hv)
   rw [encGroup_eq] at hcc
   have hj : j < 2 := (List.getElem?_eq_some_iff.1 hcc).1
   match j, hj, hcc with
   | 0, _, hcc => cases hcc; exact ⟨_, by rw [Nat.mul_comm]; exact f1, .str _⟩
   | 1, _, hcc => cases hcc; exact ⟨_, by rw [Nat.mul_comm]; exact f2, selRow_frz (h.sub i x _ hx hv) (Nat.le_refl _) h.cons⟩
theorem gs_made {e : GEnv} {M : Mem} {w : World} {h0 h1 h2 h3 h4 h5 h6 : Value} (hc : Cons M w) (o1 o2 : Obj)
  (hr : Rv M noB (.agg [(.slice (List.map encDef e.s.defs) [] false), (.str e.s.query), (.str e.s.mutation)]) (.agg #[h0, h1, h2])) (hd : Rv M noB (.agg [(.slice (List.map encOp e.d.ops) [] false), (.slice (List.map encFrag e.d.frags) [] false)]) (.agg #[h3, h4]))
  (he : Rv M noB (.slice (List.map encMember e.env) [] false) h5) (ht : Rv M noB (.str e.typ) h6) {wb : World}
  (hw : wb = (((w.alloc o1).alloc o2).alloc (.map #[] 0)).alloc (.cells #[h0, h1, h2, h3, h4, h5, h6, .slice none 0 0, .map (some (w.heap.size + 1 + 1))] 84)) :
  GSh e w.heap.size (w.heap.size + 1 + 1 + 1) (w.heap.size + 1 + 1) M wb ([], []) ∧ Below w.heap.size w wb := by
 have hb : Below w.heap.size w ((((w.alloc o1).alloc o2).alloc (.map #[] 0)).alloc (.cells #[h0, h1, h2, h3, h4, h5, h6, .slice none 0 0, .map (some (w.heap.size + 1 + 1))] 84)) :=
  ((((Below.refl _ _).alloc (Nat.le_refl _) o1).alloc (by simp) o2).alloc (by simp; omega) _).alloc (by simp; omega) _
 have hrow : wb.heap[w.heap.size + 1 + 1 + 1]? = some (.cells #[h0, h1, h2, h3, h4, h5, h6, .slice none 0 0, .map (some (w.heap.size + 1 + 1))] 84 (0, 0)) := by
  have := heap_alloc_new (((w.alloc o1).alloc o2).alloc (.map #[] 0)) (.cells #[h0, h1, h2, h3, h4, h5, h6, .slice none 0 0, .map (some (w.heap.size + 1 + 1))] 84)
  rw [hw]
  simpa using this
 have hmet : MetAt wb (w.heap.size + 1 + 1) [] := by
  have h1 := metAt_made ((w.alloc o1).alloc o2)
  have e1 : ((w.alloc o1).alloc o2).heap.size = w.heap.size + 1 + 1 := by simp
  rw [e1] at h1
  rw [hw]
  exact h1.congr (heap_alloc_old _ _ h1.lt)
 rw [← hw] at hb
 refine ⟨⟨by simp, h0, h1, h2, h3, h4, h5, h6, none, 0, [], ?_⟩, hb⟩
 refine ⟨hb.size, cons_below hc hb, by omega, by omega, by omega, hrow, hr, hd, he, ht, rfl, World.ownsRow_nil _ _ _ _, fun i g v hg => by simp at hg, fun i j v v' k _ hv => by simp at hv, fun i v k hv => by simp at hv, fun k hk => by simp [Value.ownBlock] at hk, hmet, fun i => cons_lt hc (by omega) i, fun i => cons_lt hc (by omega) i, fun k hk => by simp [Value.ownBlock] at hk, fun i v k hv => by simp at hv⟩
set_option maxHeartbeats 8000000 in
set_option maxRecDepth 100000 in
theorem groups_walk (x : GArg) (C n : Nat) (gs : List GGroup) (met : List Str) (hC : C ≤ 536870912) (hfr : Sm x.2.1.frags) (hsok : SOk x.1) (henv : Sm x.2.2.1) (hdoc : ∀ n, bkSels (gFrag x.2.1 n).1.sels ≤ C) (hl : bkSels x.2.2.2.2 ≤ C) (hp : unmet x.2.1.frags [] + bkSels x.2.2.2.2 ≤ C)
  (h : thr ⟨x.1, x.2.1, x.2.2.1, x.2.2.2.1⟩ n x.2.2.2.2 ([], []) = some (gs, met)) {M : Mem} {w : World} (h0 h1 h2 h3 h4 h5 h6 c : Value) (hc : Cons M w)
  (hr : Rv M noB (.agg [(.slice (List.map encDef x.1.defs) [] false), (.str x.1.query), (.str x.1.mutation)]) (.agg #[h0, h1, h2])) (hd : Rv M noB (.agg [(.slice (List.map encOp x.2.1.ops) [] false), (.slice (List.map encFrag x.2.1.frags) [] false)]) (.agg #[h3, h4]))
  (he : Rv M noB (.slice (List.map encMember x.2.2.1) [] false) h5) (ht : Rv M noB (.str x.2.2.2.1) h6) (hcl : Rv M noB (.slice (List.map encSel x.2.2.2.2) [] false) c) :
  Calls Try.prog 18 #[.agg #[h0, h1, h2], .agg #[h3, h4], h5, h6, c] w fun e w' => ∃ v M', e = .returned v ∧ Rv M' noB (grpR gs) v ∧ Cons M' w' ∧ Quiet M w M' w' := by
 have hq1 := rv_aggL hr
 have hq2 := rv_aggL hd
 cases hq1 with | cons q0 hq1 =>
 cases hq1 with | cons q1 hq1 =>
 cases hq1 with | cons q2 hq1 =>
 cases hq2 with | cons r0 hq2 =>
 cases hq2 with | cons r1 hq2 =>
 obtain ⟨a0, l0, p0, rfl⟩ := isSlice q0
 cases q1
 cases q2
 obtain ⟨a3, l3, p3, rfl⟩ := isSlice r0
 obtain ⟨a4, l4, p4, rfl⟩ := isSlice r1
 obtain ⟨a5, l5, p5, rfl⟩ := isSlice he
 cases ht
 have hmm := @run_makeMap Try.prog
 obtain ⟨hg1, hb1⟩ := gs_made (e := ⟨x.1, x.2.1, x.2.2.1, x.2.2.2.1⟩) hc (.cells #[.slice a0 l0 p0, .string ⟨x.1.query.toArray⟩, .string ⟨x.1.mutation.toArray⟩] 24) (.cells #[.slice a3 l3 p3, .slice a4 l4 p4] 28) hr hd he (.str _) rfl
 have hcall := through_walk (e := ⟨x.1, x.2.1, x.2.2.1, x.2.2.2.1⟩) hfr hsok henv hdoc hC n x.2.2.2.2 _ _ M _ c h hg1 hcl hl (by simp only [pot, GGroup, List.length_nil]; have : tot ([] : List GGroup) = 0 := rfl; omega)
 replace hg1 := (id hg1 : Hid _)
 replace hb1 := (id hb1 : Hid _)
 clear h
 go_enter Try.func18, Try.ntmps18
 go_wp2_with (go_at_call 40; refine hcall.mono ?_; rintro e' w2 ⟨rfl, M2, ⟨hne, g0, g1, g2, g3, g4, g5, g6, oa, cap, vs, hG⟩, hf⟩; clear hcall; have k7 : w2.cell? ⟨w.heap.size + 1 + 1 + 1, 7, none⟩ = some (.slice oa gs.length cap) := by (rw [cell_of_row w2 _ _ _ _ _ hG.row]; rfl))
 go_ret
 have hb := hb1.out
 refine ⟨_, frzM w.heap.size M2 w2, rfl, gs_frz hG noB, frzM_cons hG.cons, fun b i v hv => frzM_mono hG.cons b i v (hf.mem b i v hv), fun b hbl => ⟨(hf.below.block b hbl).trans (hb.block b hbl), fun i => (frzM_old hbl i).trans (hf.old b hbl i)⟩, Nat.le_trans hb.size hf.below.size, hf.below.os.trans hb.os, hf.below.tape.trans hb.tape, hf.below.output.trans hb.output⟩
theorem unmet_bk (met : List Str) : ∀ l : List GFrag, unmet l met ≤ sumL bkFrag l
 | [] => by simp [unmet]
 | f :: l => by
  have := unmet_bk met l
  simp only [unmet, sumL]
  cases met.contains f.name <;> simp only [cond_true, cond_false] <;> omega
theorem gFrag_bk (d : GDoc) (n : Str) : bkSels (gFrag d n).1.sels ≤ bkDoc d := by
 unfold gFrag
 cases h : d.frags.find? (fun f => f.name == n) with
 | none => simp [bkSels]
 | some f =>
  have h1 := bkF_sels f
  have h2 := sl_mem (f := bkFrag) (List.mem_of_find?_eq_some h)
  rw [bkDoc_eq]
  simp only; omega
set_option maxRecDepth 100000 in
theorem groups_keeps (args : List PV) (x : GArg) (gs : List GGroup) (ha : args.map PV.plain = grpA x) (hown : ∀ p ∈ args, ∀ v, NoOwn p v) (hsol : ∀ p ∈ args, p.solid = true) (h : grpF x = some gs) : Keeps Try.prog (fun _ _ => none) 18 args (grpR gs) := by
 unfold grpF at h
 split at h
 ·rename_i hb
  rw [Option.map_eq_some_iff] at h
  obtain ⟨⟨gs', met⟩, h1, rfl⟩ := h
  have hd := bkDoc_eq x.2.1
  have hs := bkSchema_eq x.1
  have hf := sl_len (f := bkFrag) (fun f => by have := bkF_sels f; omega) x.2.1.frags
  have he := sl_len (f := bkMember) (fun d => by rw [bkMember_eq]; omega) x.2.2.1
  refine keeps_of_calls hown hsol rfl rfl (fun vals w => rfl) ?_
  intro M w vals hc hsz hrel
  have hlen : args.length = 5 := by have := congrArg List.length ha; simpa [grpA] using this
  have hr : ∀ (i : Nat) (p : PV), (grpA x)[i]? = some p → Rv M noB p (vals.getD i undef) := by
   intro i p hp
   rw [← ha, List.getElem?_map] at hp
   cases h2 : args[i]? with
   | none => rw [h2] at hp; simp at hp
   | some p' =>
    rw [h2] at hp
    simp only [Option.map_some, Option.some.injEq] at hp
    rw [← hp]
    exact hrel i p' h2
  have e0 := hr 0 _ rfl
  have e1 := hr 1 _ rfl
  have e2 := hr 2 _ rfl
  have e3 := hr 3 _ rfl
  have e4 := hr 4 _ rfl
  obtain ⟨l0, k0, m0⟩ := rv_agg e0
  obtain ⟨l1, k1, m1⟩ := rv_agg e1
  have hl0 : ∃ a b c, l0 = [a, b, c] := by
   cases m0 with | cons _ m0 => cases m0 with | cons _ m0 => cases m0 with | cons _ m0 => cases m0; exact ⟨_, _, _, rfl⟩
  have hl1 : ∃ a b, l1 = [a, b] := by
   cases m1 with | cons _ m1 => cases m1 with | cons _ m1 => cases m1; exact ⟨_, _, rfl⟩
  obtain ⟨a, b, c, rfl⟩ := hl0
  obtain ⟨a', b', rfl⟩ := hl1
  have hv : vals = #[.agg #[a, b, c], .agg #[a', b'], vals.getD 2 undef, vals.getD 3 undef, vals.getD 4 undef] := by
   apply Array.ext
   ·simp [hsz, hlen]
   ·intro i h1 h2
    have hi : i < 5 := by simpa using h2
    have hg : vals[i] = vals.getD i undef := by simp [h1]
    rw [hg]
    match i, hi with
    | 0, _ => exact k0
    | 1, _ => exact k1
    | 2, _ => rfl
    | 3, _ => rfl
    | 4, _ => rfl
  rw [k0] at e0
  rw [k1] at e1
  have := groups_walk x 268435456 _ gs' met (by omega) (by show x.2.1.frags.length < _; omega) ⟨by omega⟩ (by show x.2.2.1.length < _; omega) (fun n => by have := gFrag_bk x.2.1 n; omega) (by omega) (by have := unmet_bk [] x.2.1.frags; have e : bkSl bkFrag x.2.1.frags = sumL bkFrag x.2.1.frags + 1 := rfl; omega) h1 a b c a' b' _ _ _ hc e0 e1 e2 e3 e4
  rw [← hv] at this
  exact this
 ·simp at h
theorem collect_Groups_ok (s : GSchema) (d : GDoc) (env : List GMember) (typ : Str) (l : List GSel) (gs : List GGroup) (h : grpF (s, d, env, typ, l) = some gs) : collect_Groups s d env typ l = some gs := by
 unfold collect_Groups
 refine tO_of (pair_inj collect_GroupsEj) ?_
 refine OL_ext (g := xSelf Try.prog (fun _ _ => none) 18 grpA grpR grpF) rfl ?_
 refine xSelf_of grpA_inj (x := (s, d, env, typ, l)) rfl h (groups_keeps _ (s, d, env, typ, l) gs rfl ?_ ?_ h)
 ·intro p hp v
  apply noOwn_of_plain
  simp only [List.mem_cons, List.not_mem_nil, or_false] at hp
  rcases hp with rfl | rfl | rfl | rfl | rfl <;> rfl
 ·intro p hp
  simp only [List.mem_cons, List.not_mem_nil, or_false] at hp
  rcases hp with rfl | rfl | rfl | rfl | rfl <;> rfl
theorem collect_Groups_i1_ok (s : GSchema) (d : GDoc) (typ : Str) (l : List GSel) (gs : List GGroup) (h : grpF (s, d, [], typ, l) = some gs) : collect_Groups_i1 s d typ l = some gs := by
 unfold collect_Groups_i1
 refine tO_of (pair_inj collect_Groups_i1Ej) ?_
 refine OL_ext (g := xSelf Try.prog (fun _ _ => none) 18 grpA grpR grpF) rfl ?_
 refine xSelf_of grpA_inj (x := (s, d, [], typ, l)) rfl h (groups_keeps _ (s, d, [], typ, l) gs rfl ?_ ?_ h)
 ·intro p hp v
  simp only [List.mem_cons, List.not_mem_nil, or_false] at hp
  rcases hp with rfl | rfl | rfl | rfl | rfl
  ·exact noOwn_of_plain rfl
  ·exact noOwn_of_plain rfl
  ·intro x hx
   cases v <;> simp [atoms, zipA, own1] at hx ⊢ <;> (try subst hx) <;> rfl
  ·exact noOwn_of_plain rfl
  ·exact noOwn_of_plain rfl
 ·intro p hp
  simp only [List.mem_cons, List.not_mem_nil, or_false] at hp
  rcases hp with rfl | rfl | rfl | rfl | rfl <;> rfl
def totB : List GGroup → Nat
 | [] => 0
 | g :: l => bkSels g.sels + totB l
theorem bkSels_app (l m : List GSel) : bkSels (l ++ m) = bkSels l + bkSels m := by rw [bkSels_eq, bkSels_eq, bkSels_eq, sumL_append]
theorem totB_put (k : Str) (x : GSel) : ∀ l : List GGroup, totB (putG l k x) = totB l + bkSel x
 | [] => by simp only [putG, totB, bkSels]; omega
 | g :: l => by
  simp only [putG]
  split
  ·simp only [totB, bkSels_app, bkSels]; omega
  ·simp only [totB, totB_put k x l]; omega
theorem totB_mem : ∀ {l : List GGroup} {g : GGroup}, g ∈ l → bkSels g.sels ≤ totB l
 | a :: l, g, h => by
  simp only [totB]
  rcases List.mem_cons.1 h with rfl | h
  ·omega
  ·have := totB_mem h; omega
theorem totB_len : ∀ (l : List GGroup), (∀ g ∈ l, g.sels ≠ []) → l.length ≤ totB l
 | [], _ => Nat.le_refl _
 | g :: l, h => by
  have h1 := totB_len l (fun g hg => h g (by simp [hg]))
  have h2 : 0 < g.sels.length := List.length_pos_iff.2 (h g (by simp))
  have h3 := bkSels_len g.sels
  simp only [totB, List.length_cons]; omega
def potB (e : GEnv) (st : GSt) : Nat := totB st.1 + unmet e.d.frags st.2
theorem step_potB {e : GEnv} {r : List GSel → GSt → Option GSt} (hr : ∀ l st s, r l st = some s → potB e s ≤ potB e st + bkSels l) {x : GSel} {st s : GSt} (h : stepG e r x st = some s) : potB e s ≤ potB e st + bkSel x := by
 have hx := bkS_sels x
 have hu := unmet_le x.name st.2 e.d.frags
 unfold stepG at h
 cases h1 : gHolds e.env x.dirs <;> rw [h1] at h
 ·cases h; omega
 cases h2 : x.kind == 0 <;> rw [h2] at h
 ·cases h3 : x.kind == 1 <;> rw [h3] at h
  ·cases h4 : x.kind == 2 <;> rw [h4] at h
   ·cases h; omega
   ·cases h5 : gApplies e.s e.typ x.on_ <;> rw [h5] at h
    ·cases h; omega
    ·have := hr _ _ _ h; omega
  ·cases h4 : st.2.contains x.name <;> rw [h4] at h
   ·cases h5 : (gFrag e.d x.name).2 && gApplies e.s e.typ (gFrag e.d x.name).1.on_ <;> rw [h5] at h
    ·cases h
     simp only [potB]; omega
    ·have h6 := hr _ _ _ h
     rw [Bool.and_eq_true] at h5
     have h7 : unmet e.d.frags (st.2 ++ [x.name]) + bkSels (gFrag e.d x.name).1.sels ≤ unmet e.d.frags st.2 := by
      have h2 := h5.1
      unfold gFrag at h2 ⊢
      cases hff : e.d.frags.find? (fun f => f.name == x.name) with
      | none => rw [hff] at h2; simp at h2
      | some f =>
       have := unmet_mem h4 hff
       have := bkF_sels f
       simp only; omega
     simp only [potB] at h6 ⊢; omega
   ·cases h; omega
 ·cases h
  simp only [potB, totB_put]
  omega
theorem thr_potB (e : GEnv) : ∀ (n : Nat) (l : List GSel) (st s : GSt), thr e n l st = some s → potB e s ≤ potB e st + bkSels l
 | 0, _, _, _, h => by simp [thr] at h
 | n + 1, [], st, s, h => by simp only [thr, Option.some.injEq] at h; subst h; omega
 | n + 1, x :: l, st, s, h => by
  simp only [thr] at h
  obtain ⟨s1, h1, h2⟩ := Ev.bnd_some h
  have := step_potB (thr_potB e n) h1
  have := thr_potB e n l s1 s h2
  rw [bkS_cons]; omega
def Grp (e : GEnv) (l : List GSel) (gs : List GGroup) : Prop := ∃ n met, thr e n l ([], []) = some (gs, met)
theorem Grp.det {e : GEnv} {l : List GSel} {gs gs' : List GGroup} (h : Grp e l gs) (h' : Grp e l gs') : gs = gs' := by
 obtain ⟨n, m, h⟩ := h
 obtain ⟨n', m', h'⟩ := h'
 have := thr_det e h h'
 exact congrArg Prod.fst this
theorem grp_ex (s : GSchema) (d : GDoc) (env : List GMember) (typ : Str) (l : List GSel) (hb : bkSels l + bkDoc d + bkSchema s + bkSl bkMember env ≤ 268435456) :
  ∃ gs, Grp ⟨s, d, env, typ⟩ l gs ∧ collect_Groups s d env typ l = some gs := by
 have hu := unmet_bk [] d.frags
 have hf := bkDoc_frags d
 obtain ⟨⟨gs, met⟩, h1, h2⟩ := thr_ok ⟨s, d, env, typ⟩ (bkSels l + bkDoc d + 1) l ([], []) (by simp only; omega)
 refine ⟨gs, ⟨_, met, h1⟩, collect_Groups_ok s d env typ l gs ?_⟩
 unfold grpF
 rw [if_pos hb]
 show Option.map _ (thr ⟨s, d, env, typ⟩ (bkSels l + bkDoc d + 1) l ([], [])) = _
 rw [h1]; rfl
theorem Grp.keys {e : GEnv} {l : List GSel} {gs : List GGroup} (h : Grp e l gs) : KeysOk e gs := by
 obtain ⟨n, m, h⟩ := h
 exact thr_keys h
theorem Grp.bk {e : GEnv} {l : List GSel} {gs : List GGroup} (h : Grp e l gs) : totB gs ≤ bkDoc e.d + bkSels l := by
 obtain ⟨n, m, h⟩ := h
 have h1 := thr_potB e n l _ _ h
 have hu := unmet_bk [] e.d.frags
 have hf := bkDoc_frags e.d
 simp only [potB] at h1
 have : totB ([] : List GGroup) = 0 := rfl
 omega
theorem szMem (m : List GMember) {h : Nat} (hm : bkSl bkMember m ≤ h) : m.length ≤ h ∧ ∀ x ∈ m, szV x.v ≤ h := by
 refine ⟨by have := sl_len bkMember_pos m; omega, fun x hx => ?_⟩
 have h1 := sl_mem (f := bkMember) hx
 have h2 := szV_bk x.v
 rw [bkMember_eq] at h1
 omega
theorem members_self (m : List GMember) (h : bkSl bkMember m < 1073741824) : seineref1_Members m m = some true := by
 obtain ⟨h1, h2⟩ := szMem m (Nat.le_refl _)
 exact members_of m (by omega) fun x hx => seineref1_Same_self x.v (by have := h2 x hx; omega)
theorem sameSels_self' : ∀ (n : Nat) (l : List GSel), bkSels l ≤ n → n < 1073741824 → seineref6_SameSels l l = some true := by
 intro n
 induction n with
 | zero =>
  intro l h _
  have := bkSels_len l
  have hs : l = [] := List.length_eq_zero_iff.1 (by omega)
  subst hs
  exact seineref6_SameSels_run (by unfold seineref6_SameSels_B; rw [tloop_exit (r := .inl ()) (by simp [seineref6_SameSels_l1T])]; rfl)
 | succ n ih =>
  intro l h hn
  have hl := bkSels_len l
  have hr := loop_all (b := seineref6_SameSels_l1T l l) l (.inl ()) (by show l.length < _; omega) (by simp [seineref6_SameSels_l1T]) (by
   intro k x hx h1 h2 h3
   have hb := bkSels_mem hx
   have hb2 := bkSel_sels x
   have hb3 := hb
   rw [bkSel_eq] at hb3
   have g1 := members_self x.args (by omega)
   have g2 := seineref6_SameDirs_self x.dirs (by omega)
   have g3 := ih x.sels (by omega) (by omega)
   simp only [seineref6_SameSels_l1T, h1, cnd_t, h2, bnd_s, h3, bne_self_eq_false, beq_self_eq_true, Bool.not_true, cnd_f, g1, g2, g3])
  exact seineref6_SameSels_run (by simp only [seineref6_SameSels_B, bne_self_eq_false, cnd_f, hr, bnd_s]; rfl)
theorem sameSels_self (l : List GSel) (h : bkSels l < 1073741824) : seineref6_SameSels l l = some true := sameSels_self' _ l (Nat.le_refl _) h
theorem sels_keep' : ∀ (n : Nat) (l : List GSel), bkSels l ≤ n → n < 1073741824 → seinekeep_Sels l = some l := by
 intro n
 induction n with
 | zero =>
  intro l h _
  have := bkSels_len l
  have hs : l = [] := List.length_eq_zero_iff.1 (by omega)
  subst hs
  exact seinekeep_Sels_run (by unfold seinekeep_Sels_B; rw [tloop_exit (r := []) (by simp [seinekeep_Sels_l1T])]; rfl)
 | succ n ih =>
  intro l h hn
  have hl := bkSels_len l
  have hr := loop_copy (b := seinekeep_Sels_l1T l) l (fun k a => (a, (k : Int))) (by omega) (fun a => by simp [seinekeep_Sels_l1T]) (by
   intro k x a hx h1 h2 h3 hap
   have hb := bkSels_mem hx
   have hb2 := bkSel_sels x
   have hb3 := hb
   rw [bkSel_eq] at hb3
   obtain ⟨q1, q2⟩ := szMem x.args (Nat.le_refl _)
   have g1 := members_keep x.args (by omega) (fun y hy => seinekeep_Value_ok y.v (by have := q2 y hy; omega))
   have g2 := seinekeep_Dirs_ok x.dirs (by omega)
   have g3 := ih x.sels (by omega) (by omega)
   simp only [seinekeep_Sels_l1T, h1, cnd_t, h2, bnd_s, g1, g2, g3, hap, h3]
   cases x; rfl) (s := ([], 0)) rfl
  exact seinekeep_Sels_run (by simp only [seinekeep_Sels_B, hr, bnd_s])
theorem sels_keep (l : List GSel) (h : bkSels l < 1073741824) : seinekeep_Sels l = some l := sels_keep' _ l (Nat.le_refl _) h
theorem sameGroups_self (l : List GGroup) (hl : l.length < 1073741824) (h : ∀ g ∈ l, bkSels g.sels < 1073741824) : seinelaw25_sameGroups l l = some true := by
 have hr := loop_all (b := seinelaw25_sameGroups_l1T l l) l (.inl ()) (by show l.length < _; omega) (by simp [seinelaw25_sameGroups_l1T]) (by
  intro k x hx h1 h2 h3
  simp only [seinelaw25_sameGroups_l1T, h1, cnd_t, h2, bnd_s, h3, beq_self_eq_true, Bool.not_true, cnd_f, sameSels_self x.sels (h x hx)])
 exact seinelaw25_sameGroups_run (by simp only [seinelaw25_sameGroups_B, bne_self_eq_false, cnd_f, hr, bnd_s]; rfl)
theorem Grp.same {e : GEnv} {l : List GSel} {gs : List GGroup} (h : Grp e l gs) (hb : bkDoc e.d + bkSels l < 1073741824) : seinelaw25_sameGroups gs gs = some true := by
 have h1 := h.bk
 have h2 := totB_len gs h.keys.ne
 exact sameGroups_self gs (by omega) fun g hg => by have := totB_mem hg; omega
theorem szArgs (m : List GMember) (h : bkSl bkMember m < 1073741824) : szV ⟨0, 0, [], [], m⟩ < 4611686018427387904 := by
 have h4 := szMs_bk m
 rw [bkMembers_eq] at h4
 simp only [szV, szVs, List.length_nil]
 have h5 : bkSl bkMember m = sumL bkMember m + 1 := rfl
 omega
theorem lightDirs7_ex (l : List GDir) (h : bkSl bkDir l < 1073741824) : ∃ n, seinelaw7_lightDirs l = some n := by
 have hl := sl_len (f := bkDir) (fun d => by rw [bkDir_eq]; omega) l
 obtain ⟨r, hr⟩ := loop_ex (b := seinelaw7_lightDirs_l1T l) l (fun k (a : Int) => (a, (k : Int))) (by show l.length < _; omega) (fun a => ⟨a, by simp [seinelaw7_lightDirs_l1T]⟩) (by
  intro k x a hx h1 h2 h3
  have hb := sl_mem (f := bkDir) hx
  rw [bkDir_eq] at hb
  right; simp only [seinelaw7_lightDirs_l1T, h1, cnd_t, h2, bnd_s, h3, seinekeep_Size_ok _ (szArgs x.args (by omega))]; exact ⟨_, rfl⟩) (s := (0, 0)) (a := 0) rfl
 exact ⟨r, seinelaw7_lightDirs_run (by simp only [seinelaw7_lightDirs_B, hr, bnd_s])⟩
theorem lightSels_ex' : ∀ (n : Nat) (l : List GSel), bkSels l ≤ n → n < 1073741824 → ∃ m, seinelaw7_lightSels l = some m := by
 intro n
 induction n with
 | zero =>
  intro l h _
  have := bkSels_len l
  have hs : l = [] := List.length_eq_zero_iff.1 (by omega)
  subst hs
  exact ⟨0, seinelaw7_lightSels_run (by unfold seinelaw7_lightSels_B; rw [tloop_exit (r := 0) (by simp [seinelaw7_lightSels_l1T])]; rfl)⟩
 | succ n ih =>
  intro l h hn
  have hl := bkSels_len l
  obtain ⟨r, hr⟩ := loop_ex (b := seinelaw7_lightSels_l1T l) l (fun k (a : Int) => (a, (k : Int))) (by show l.length < _; omega) (fun a => ⟨a, by simp [seinelaw7_lightSels_l1T]⟩) (by
   intro k x a hx h1 h2 h3
   have hb := bkSels_mem hx
   have hb2 := bkSel_sels x
   have hb3 := hb
   rw [bkSel_eq] at hb3
   obtain ⟨m1, g1⟩ := lightDirs7_ex x.dirs (by omega)
   obtain ⟨m2, g2⟩ := ih x.sels (by omega) (by omega)
   right; simp only [seinelaw7_lightSels_l1T, h1, cnd_t, h2, bnd_s, h3, seinekeep_Size_ok _ (szArgs x.args (by omega)), g1, g2]; exact ⟨_, rfl⟩) (s := (0, 0)) (a := 0) rfl
  exact ⟨r, seinelaw7_lightSels_run (by simp only [seinelaw7_lightSels_B, hr, bnd_s])⟩
theorem lightSels_ex (l : List GSel) (h : bkSels l < 1073741824) : ∃ m, seinelaw7_lightSels l = some m := lightSels_ex' _ l (Nat.le_refl _) h
theorem seinelaw7_Light_ex (d : GDoc) (h : bkDoc d < 1073741824) : ∃ b, seinelaw7_Light d = some b := by
 rw [bkDoc_eq] at h
 have ho := sl_len (f := bkOp) (fun d => by rw [bkOp_eq]; omega) d.ops
 have hf := sl_len bkFrag_pos d.frags
 obtain ⟨r, hr⟩ := loop_ex (b := seinelaw7_Light_l2T d) d.ops (fun k (a : Int) => (a, (k : Int))) (by show d.ops.length < _; omega) (fun a => ⟨a, by simp [seinelaw7_Light_l2T]⟩) (by
  intro k o a hx h1 h2 h3
  have hb := sl_mem (f := bkOp) hx
  rw [bkOp_eq] at hb
  obtain ⟨m1, g1⟩ := lightDirs7_ex o.dirs (by omega)
  obtain ⟨m2, g2⟩ := lightSels_ex o.sels (by rw [bkSels_eq]; have e : bkSl bkSel o.sels = sumL bkSel o.sels + 1 := rfl; omega)
  have hv := sl_len (f := bkVarDef) (fun d => by rw [bkVarDef_eq]; omega) o.vars
  have hin : ∀ n0 : Int, ∃ n, tloop (seinelaw7_Light_l1T d (k : Int)) (n0, 0) = some n := by
   intro n0
   refine loop_ex (b := seinelaw7_Light_l1T d (k : Int)) o.vars (fun k (a : Int) => (a, (k : Int))) (by show o.vars.length < _; omega) (fun a => ⟨a, by simp [seinelaw7_Light_l1T, h2]⟩) (by
    intro j v a hv h4 h5 h6
    have hvb := sl_mem (f := bkVarDef) hv
    rw [bkVarDef_eq] at hvb
    have hs := szV_bk v.default
    right; simp only [seinelaw7_Light_l1T, h2, bnd_s, h4, cnd_t, h5, h6, seinekeep_Size_ok v.default (by omega)]; exact ⟨_, rfl⟩) (a := n0) rfl
  right
  simp only [seinelaw7_Light_l2T, h1, cnd_t, h2, bnd_s, h3, g1, g2]
  obtain ⟨n, hn⟩ := hin (IntKind.wrap .i64 ((IntKind.wrap .i64 ((IntKind.wrap .i64 ((IntKind.wrap .i64 (a + 1)) + m1)) + m2)) + (List.length o.name : Int)))
  rw [hn]
  exact ⟨n, rfl⟩) (s := (0, 0)) (a := 0) rfl
 obtain ⟨q, hq⟩ := loop_ex (b := seinelaw7_Light_l3T d) d.frags (fun k (a : Int) => (a, (k : Int))) (by show d.frags.length < _; omega) (fun a => ⟨a, by simp [seinelaw7_Light_l3T]⟩) (by
  intro k f a hx h1 h2 h3
  have hb := sl_mem (f := bkFrag) hx
  rw [bkFrag_eq] at hb
  obtain ⟨m1, g1⟩ := lightDirs7_ex f.dirs (by omega)
  obtain ⟨m2, g2⟩ := lightSels_ex f.sels (by rw [bkSels_eq]; have e : bkSl bkSel f.sels = sumL bkSel f.sels + 1 := rfl; omega)
  right; simp only [seinelaw7_Light_l3T, h1, cnd_t, h2, bnd_s, h3, g1, g2]; exact ⟨_, rfl⟩) (s := (r, 0)) (a := r) rfl
 exact ⟨decide (q ≤ 3200), seinelaw7_Light_run (by simp only [seinelaw7_Light_B, hr, bnd_s, hq])⟩
theorem bkDoc_one (l : List GSel) : bkDoc ⟨[], [⟨[], [], [], l⟩]⟩ = bkSels l + 8 := by
 rw [bkDoc_eq, bkSels_eq]; simp only [bkSl, sumL, bkFrag_eq, bkStr, List.length_nil]; omega
theorem light_ex (s : GSchema) (d : GDoc) (l : List GSel) (hs : SOk s) (hd : bkDoc d < 1073741824) (hl : bkSels l < 1073741816) : ∃ b, seinelaw25_light s d l = some b := by
 obtain ⟨b1, h1⟩ := seinelaw8_Light_ex s hs
 obtain ⟨b2, h2⟩ := seinelaw7_Light_ex d hd
 obtain ⟨b3, h3⟩ := seinelaw7_Light_ex ⟨[], [⟨[], [], [], l⟩]⟩ (by rw [bkDoc_one]; omega)
 refine ⟨b1 && (b2 && b3), seinelaw25_light_run ?_⟩
 simp only [seinelaw25_light_B, h1, bnd_s, h2, h3]
 cases b1 <;> cases b2 <;> rfl
theorem light_i1_ex (s : GSchema) (d : GDoc) (hs : SOk s) (hd : bkDoc d < 1073741824) : ∃ b, seinelaw25_light_i1 s d = some b := by
 obtain ⟨b1, h1⟩ := seinelaw8_Light_ex s hs
 obtain ⟨b2, h2⟩ := seinelaw7_Light_ex d hd
 obtain ⟨b3, h3⟩ := seinelaw7_Light_ex ⟨[], [⟨[], [], [], []⟩]⟩ (by rw [bkDoc_one]; simp only [bkSels]; omega)
 refine ⟨b1 && (b2 && b3), seinelaw25_light_i1_run ?_⟩
 simp only [seinelaw25_light_i1_B, h1, bnd_s, h2, h3]
 cases b1 <;> cases b2 <;> rfl
theorem awake_ok : seinelaw25_awake = some true := by
 apply seinelaw25_awake_run
 have h1 := collect_Groups_i1_ok ⟨[], [], []⟩ ⟨[], []⟩ [84] [(GSel.mk 0 [] [97] ([] : List GMember) ([] : List GDir) [] ([] : List GSel)), (GSel.mk 0 [98] [97] ([] : List GMember) ([] : List GDir) [] ([] : List GSel)), (GSel.mk 2 [] [] ([] : List GMember) ([] : List GDir) [] [(GSel.mk 0 [] [97] ([] : List GMember) ([] : List GDir) [] ([] : List GSel))])]
  [⟨[97], [(GSel.mk 0 [] [97] [] [] [] []), (GSel.mk 0 [] [97] [] [] [] [])]⟩, ⟨[98], [(GSel.mk 0 [98] [97] [] [] [] [])]⟩] (by kernel_rfl)
 have h2 := gApplies_ok ⟨[], [], []⟩ [84] [] ⟨by rw [bkSchema_eq]; simp only [bkSl, sumL, bkStr, List.length_nil]; omega⟩
 simp only [seinelaw25_awake_B, h1, bnd_s, holds_nil_ok, h2]
 rfl
theorem size_ex (env : List GMember) (h : bkSl bkMember env < 1073741824) : ∃ n, seinekeep_Size (GValue.mk 0 0 [] ([] : List GValue) env) = some n := ⟨_, seinekeep_Size_ok _ (szArgs env h)⟩
theorem keys_sels {e : GEnv} {l : List GSel} {gs : List GGroup} (h : Grp e l gs) (hb : bkDoc e.d + bkSels l < 1073741824) (he : Sm e.env) {g : GGroup} (hg : g ∈ gs) :
  g.sels.length < 1073741824 ∧ ∀ x ∈ g.sels, x.kind = 0 ∧ gKey x = g.key ∧ collect_Holds e.env x.dirs = some true := by
 have h1 := h.bk
 have h2 := totB_mem hg
 have h3 := bkSels_len g.sels
 refine ⟨by omega, fun x hx => ?_⟩
 obtain ⟨k1, k2, k3⟩ := h.keys.own g hg x hx
 have hxb := bkSels_mem hx
 rw [bkSel_eq] at hxb
 refine ⟨k1, k2, ?_⟩
 rw [← k3]
 refine gHolds_ok e.env x.dirs he ?_ ?_
 ·have := sl_len (f := bkDir) (fun d => by rw [bkDir_eq]; omega) x.dirs
  show x.dirs.length < _; omega
 ·intro d hd
  have h1 := sl_mem (f := bkDir) hd
  rw [bkDir_eq] at h1
  have h2 := sl_len bkMember_pos d.args
  show d.args.length < _; omega
theorem nthI_take {α : Type} {l : List α} {n k : Nat} {x : α} (h : nthI (l.take n) (k : Int) = some x) : nthI l (k : Int) = some x ∧ k < n := by
 rw [nthI_nat] at h ⊢
 rw [List.getElem?_take] at h
 split at h
 ·exact ⟨h, by assumption⟩
 ·simp at h
theorem seinelaw25_CollectKeys_ok (s : GSchema) (d : GDoc) (env : List GMember) (typ : Str) (l : List GSel) (h : bkSels l + bkDoc d + bkSchema s + bkSl bkMember env ≤ 268435456) : seinelaw25_CollectKeys s d env typ l = some true := by
 apply seinelaw25_CollectKeys_run
 obtain ⟨b1, hb1⟩ := light_ex s d l ⟨by omega⟩ (by omega) (by omega)
 obtain ⟨n, hn⟩ := size_ex env (by omega)
 obtain ⟨gs, hg, hgs⟩ := grp_ex s d env typ l h
 have henv := sl_len bkMember_pos env
 have hk := hg.keys
 have hlen := totB_len gs hk.ne
 have hbk := hg.bk
 simp only at hbk
 have hr := loop_all (b := seinelaw25_CollectKeys_l3T env gs) gs (.inl ()) (by show gs.length < _; omega) (by simp [seinelaw25_CollectKeys_l3T]) (by
  intro i g hm h1 h2 h3
  obtain ⟨q1, q2⟩ := keys_sels hg (by simp only; omega) (by show env.length < _; omega) hm
  have hne := hk.ne g hm
  have hz : ((List.length g.sels : Int) == 0) = false := by
   have := List.length_pos_iff.2 hne
   simp; exact hne
  have r1 := loop_all (b := seinelaw25_CollectKeys_l1T env gs (i : Int)) g.sels (.inl ()) (by show g.sels.length < _; omega) (by simp [seinelaw25_CollectKeys_l1T, h2]) (by
   intro k x hx h4 h5 h6
   obtain ⟨a1, a2, a3⟩ := q2 x hx
   simp only at a3
   simp only [seinelaw25_CollectKeys_l1T, h2, bnd_s, h4, cnd_t, h5, h6, a1, gKey_ok, a2, a3, bne_self_eq_false, beq_self_eq_true, Bool.not_true, cnd_f])
  have hil : i < gs.length := by simpa using h1
  have r2 := loop_all (b := seinelaw25_CollectKeys_l2T gs (i : Int)) (gs.take i) (.inl ()) (by show (gs.take i).length < _; rw [List.length_take]; omega) (by
   rw [List.length_take, Nat.min_eq_left (by omega)]
   simp [seinelaw25_CollectKeys_l2T]) (by
   intro k x hx h4 h5 h6
   obtain ⟨h7, hki⟩ := nthI_take h5
   have h8 : decide ((k : Int) < (i : Int)) = true := by simp; exact hki
   have h9 : (x.key == g.key) = false := by
    have hnd := hk.once
    rw [nthI_nat] at h7 h2
    rw [Bool.eq_false_iff]
    intro heq
    have heq := eq_of_beq heq
    obtain ⟨k1, k2⟩ := List.getElem?_eq_some_iff.1 h7
    obtain ⟨i1, i2⟩ := List.getElem?_eq_some_iff.1 h2
    have := List.pairwise_iff_getElem.1 hnd k i (by rw [List.length_map]; exact k1) (by rw [List.length_map]; exact i1) hki
    simp only [List.getElem_map, k2, i2] at this
    exact this heq
   simp only [seinelaw25_CollectKeys_l2T, h8, cnd_t, h7, bnd_s, h2, h9, cnd_f, h6])
  simp only [seinelaw25_CollectKeys_l3T, h1, cnd_t, h2, bnd_s, hz, cnd_f, r1, r2, elim, h3])
 simp only [seinelaw25_CollectKeys_B, hb1, bnd_s, awake_ok, hn, hgs, hr, elim, cnd_same]
theorem Grp.front {e : GEnv} {l m : List GSel} {a b : List GGroup} (h : Grp e l a) (h' : Grp e (l ++ m) b) : FrontOf a b := by
 obtain ⟨n, met, h⟩ := h
 obtain ⟨n', met', h'⟩ := h'
 obtain ⟨s, k, h1, h2⟩ := thr_app e n' l m _ _ h'
 have := thr_det e h h1
 subst this
 exact thr_front h2
theorem seinelaw25_CollectFront_ok (s : GSchema) (d : GDoc) (env : List GMember) (typ : Str) (l m : List GSel) (h : bkSels l + bkSels m + bkDoc d + bkSchema s + bkSl bkMember env ≤ 268435456) : seinelaw25_CollectFront s d env typ l m = some true := by
 apply seinelaw25_CollectFront_run
 obtain ⟨b1, hb1⟩ := light_ex s d l ⟨by omega⟩ (by omega) (by omega)
 obtain ⟨b2, hb2⟩ := light_ex s d m ⟨by omega⟩ (by omega) (by omega)
 obtain ⟨n, hn⟩ := size_ex env (by omega)
 have hl := bkSels_len l
 have hm := bkSels_len m
 have t1 : tapp ([] : List GSel) l = some l := by rw [tapp_ok (by simp [lim_val]; omega)]; rfl
 have t2 : tapp l m = some (l ++ m) := tapp_ok (by rw [lim_val]; omega)
 obtain ⟨a, ha, hac⟩ := grp_ex s d env typ l (by omega)
 obtain ⟨b, hb, hbc⟩ := grp_ex s d env typ (l ++ m) (by rw [bkSels_app]; omega)
 have hF := ha.front hb
 have hlen := hF.len
 have hak := ha.bk
 have hal := totB_len a ha.keys.ne
 have hbk := hb.bk
 rw [bkSels_app] at hbk
 simp only at hak hbk
 have hr := loop_all (b := seinelaw25_CollectFront_l1T a b) a (.inl ()) (by show a.length < _; omega) (by simp [seinelaw25_CollectFront_l1T]) (by
  intro i g hg h1 h2 h3
  rw [nthI_nat] at h2
  obtain ⟨g', q1, q2, t, q3⟩ := hF i g h2
  have h2' : nthI a (i : Int) = some g := by rw [nthI_nat]; exact h2
  have q1' : nthI b (i : Int) = some g' := by rw [nthI_nat]; exact q1
  have c1 : decide ((List.length g'.sels : Int) < (List.length g.sels : Int)) = false := by rw [q3, List.length_append, decide_eq_false_iff_not]; omega
  have hg1 := totB_mem hg
  have hg2 := totB_mem (List.mem_of_getElem? q1)
  have hsl : tslc g'.sels 0 (List.length g.sels : Int) = some g.sels := by
   rw [tslc_ok (by rw [q3, List.length_append]; omega), q3]
   simp
  have hs := sameSels_self g.sels (by omega)
  simp only [seinelaw25_CollectFront_l1T, h1, cnd_t, h2', q1', bnd_s, q2, beq_self_eq_true, Bool.not_true, cnd_f, c1, hsl, hs, h3])
 have c0 : decide ((List.length b : Int) < (List.length a : Int)) = false := by simp; omega
 simp only [seinelaw25_CollectFront_B, hb1, hb2, bnd_s, awake_ok, hn, hac, t1, t2, hbc, c0, cnd_f, hr, elim, cnd_same]
theorem grp_step {e : GEnv} {x : GSel} {n : Nat} {s : GSt} (h : stepG e (thr e n) x ([], []) = some s) : Grp e [x] s.1 := by
 have h1 := step_mono (thr_succ e n) h
 refine ⟨n + 2, s.2, ?_⟩
 show bnd (stepG e (thr e (n + 1)) x ([], [])) (fun st => thr e (n + 1) [] st) = _
 rw [h1]; rfl
theorem Grp.inline {e : GEnv} {l : List GSel} {gs : List GGroup} (h : Grp e l gs) (x : GSel) (h1 : gHolds e.env x.dirs = true) (h2 : x.kind = 2) (h3 : x.sels = l) (h4 : gApplies e.s e.typ x.on_ = true) : Grp e [x] gs := by
 obtain ⟨n, met, h⟩ := h
 have : stepG e (thr e n) x ([], []) = some (gs, met) := by
  unfold stepG
  rw [h1, h2, h4, h3]; exact h
 exact grp_step this
theorem grp_none {e : GEnv} (x : GSel) (h2 : x.kind = 2) (h : gHolds e.env x.dirs = false ∨ gApplies e.s e.typ x.on_ = false) : Grp e [x] [] := by
 have : stepG e (thr e 0) x ([], []) = some ([], []) := by
  unfold stepG
  rcases h with h | h
  ·rw [h]; rfl
  ·rw [h, h2]
   cases gHolds e.env x.dirs <;> rfl
 exact grp_step this
theorem grp_ok {s : GSchema} {d : GDoc} {env : List GMember} {typ : Str} {l : List GSel} {gs : List GGroup} (h : Grp ⟨s, d, env, typ⟩ l gs) (hb : bkSels l + bkDoc d + bkSchema s + bkSl bkMember env ≤ 268435456) : collect_Groups s d env typ l = some gs := by
 obtain ⟨gs', h1, h2⟩ := grp_ex s d env typ l hb
 rw [h2, h1.det h]
theorem bk_inline (ds : List GDir) (on0 : Str) (l : List GSel) : bkSels [⟨2, [], [], [], ds, on0, l⟩] = bkSl bkDir ds + on0.length + bkSels l + 7 := by
 simp only [bkSels, bkSel_eq, bk1, bkStr, bkSl, sumL, List.length_nil, bkSels_eq]; omega
theorem seinelaw25_CollectWraps_ok (s : GSchema) (d : GDoc) (env : List GMember) (typ : Str) (l : List GSel) (on0 : Str) (h : bkSels l + bkDoc d + bkSchema s + bkSl bkMember env + typ.length + on0.length ≤ 100000000) : seinelaw25_CollectWraps s d env typ l on0 = some true := by
 apply seinelaw25_CollectWraps_run
 obtain ⟨b1, hb1⟩ := light_ex s d l ⟨by omega⟩ (by omega) (by omega)
 obtain ⟨n, hn⟩ := size_ex env (by omega)
 obtain ⟨a, ha, hac⟩ := grp_ex s d env typ l (by omega)
 have hsame := ha.same (by simp only; omega)
 have d0 : bkSl bkDir ([] : List GDir) = 1 := rfl
 have d1 : bkSl bkDir [(GDir.mk [115, 107, 105, 112] [(GMember.mk [105, 102] (GValue.mk 1 1 [] ([] : List GValue) ([] : List GMember)))])] ≤ 100 := by
  simp only [bkSl, sumL, bkDir_eq, bkMember_eq, bkValue_eq, bkStr, bk1, List.length_cons, List.length_nil]; omega
 have d2 : bkSl bkDir [(GDir.mk [105, 110, 99, 108, 117, 100, 101] [(GMember.mk [105, 102] (GValue.mk 1 1 [] ([] : List GValue) ([] : List GMember)))])] ≤ 100 := by
  simp only [bkSl, sumL, bkDir_eq, bkMember_eq, bkValue_eq, bkStr, bk1, List.length_cons, List.length_nil]; omega
 have g1 := grp_ok (ha.inline ⟨2, [], [], [], [], [], l⟩ rfl rfl rfl rfl) (by rw [bk_inline, d0, List.length_nil]; omega)
 have g2 := grp_ok (ha.inline ⟨2, [], [], [], [], typ, l⟩ rfl rfl rfl (by simp [gApplies])) (by rw [bk_inline, d0]; omega)
 have g4 := grp_ok (grp_none (e := ⟨s, d, env, typ⟩) ⟨2, [], [], [], [(GDir.mk [115, 107, 105, 112] [(GMember.mk [105, 102] (GValue.mk 1 1 [] ([] : List GValue) ([] : List GMember)))])], [], l⟩ rfl (.inl rfl)) (by rw [bk_inline, List.length_nil]; omega)
 have g5 := grp_ok (ha.inline ⟨2, [], [], [], [(GDir.mk [105, 110, 99, 108, 117, 100, 101] [(GMember.mk [105, 102] (GValue.mk 1 1 [] ([] : List GValue) ([] : List GMember)))])], [], l⟩ rfl rfl rfl rfl) (by rw [bk_inline, List.length_nil]; omega)
 have hap := gApplies_ok s typ on0 ⟨by omega⟩
 have z0 : ((List.length ([] : List GGroup) : Int) != 0) = false := rfl
 have z1 : ((List.length ([] : List GGroup) : Int) == 0) = true := rfl
 cases hA : gApplies s typ on0
 ·rw [hA] at hap
  have g3 := grp_ok (grp_none (e := ⟨s, d, env, typ⟩) ⟨2, [], [], [], [], on0, l⟩ rfl (.inr hA)) (by rw [bk_inline, d0]; omega)
  simp only [seinelaw25_CollectWraps_B, hb1, bnd_s, awake_ok, hn, hac, g1, g2, g3, g4, g5, hsame, Bool.not_true, cnd_f, cnd_t, z0, z1, hap, cnd_same]
 ·rw [hA] at hap
  have g3 := grp_ok (ha.inline ⟨2, [], [], [], [], on0, l⟩ rfl rfl rfl hA) (by rw [bk_inline, d0]; omega)
  simp only [seinelaw25_CollectWraps_B, hb1, bnd_s, awake_ok, hn, hac, g1, g2, g3, g4, g5, hsame, Bool.not_true, cnd_f, cnd_t, z0, hap, cnd_same]
theorem thr_met {e : GEnv} {n : Nat} {l : List GSel} {st s : GSt} (h : thr e n l st = some s) : ∀ m ∈ st.2, m ∈ s.2 :=
 thr_rel (fun a b => ∀ m ∈ a.2, m ∈ b.2) (fun _ _ h => h) (fun _ _ _ h k m hm => k m (h m hm)) (fun _ _ _ _ _ h => h) (fun _ _ _ h => List.mem_append_left _ h) n l st s h
theorem seinelaw25_CollectOnce_ok (s : GSchema) (d : GDoc) (env : List GMember) (typ name : Str) (h : bkDoc d + bkSchema s + bkSl bkMember env + typ.length + name.length ≤ 100000000) : seinelaw25_CollectOnce s d env typ name = some true := by
 apply seinelaw25_CollectOnce_run
 obtain ⟨b1, hb1⟩ := light_i1_ex s d ⟨by omega⟩ (by omega)
 obtain ⟨n, hn⟩ := size_ex env (by omega)
 have hbk : bkSels [⟨1, [], name, [], [], [], []⟩] = name.length + 8 := by
  simp only [bkSels, bkSel_eq, bk1, bkStr, bkSl, sumL, List.length_nil]; omega
 obtain ⟨a, ⟨k, met, ha⟩, hac⟩ := grp_ex s d env typ [⟨1, [], name, [], [], [], []⟩] (by rw [hbk]; omega)
 have hgrp : Grp ⟨s, d, env, typ⟩ [⟨1, [], name, [], [], [], []⟩] a := ⟨k, met, ha⟩
 have hsame := hgrp.same (by rw [hbk]; simp only; omega)
 have hf := gFrag_ok d name (by have := sl_len bkFrag_pos d.frags; have := bkDoc_eq d; show d.frags.length < _; omega)
 obtain ⟨k', rfl⟩ : ∃ k', k = k' + 1 := by
  cases k with
  | zero => simp [thr] at ha
  | succ k' => exact ⟨k', rfl⟩
 have ha0 := ha
 simp only [thr] at ha
 obtain ⟨s1, h1, h2⟩ := Ev.bnd_some ha
 have hs1 : s1 = (a, met) := by
  cases k' with
  | zero => simp [thr] at h2
  | succ k' => simpa [thr] using h2
 subst hs1
 have hst : (bif (gFrag d name).2 && gApplies s typ (gFrag d name).1.on_ then thr ⟨s, d, env, typ⟩ k' (gFrag d name).1.sels ([], [name]) else some ([], [name])) = some (a, met) := h1
 have hmet : name ∈ met := by
  cases hc : (gFrag d name).2 && gApplies s typ (gFrag d name).1.on_ <;> rw [hc] at hst
  ·cases hst; simp
  ·exact thr_met hst name (by simp)
 have hno : (gFrag d name).2 = false → a = [] := by
  intro h0
  rw [h0] at hst
  cases hst; rfl
 have htwo : Grp ⟨s, d, env, typ⟩ [⟨1, [], name, [], [], [], []⟩, ⟨1, [], name, [], [], [], []⟩] a := by
  refine ⟨k' + 3, met, ?_⟩
  show bnd (stepG ⟨s, d, env, typ⟩ (thr ⟨s, d, env, typ⟩ (k' + 2)) ⟨1, [], name, [], [], [], []⟩ ([], [])) (fun st => bnd (stepG ⟨s, d, env, typ⟩ (thr ⟨s, d, env, typ⟩ (k' + 1)) ⟨1, [], name, [], [], [], []⟩ st) (fun st => thr ⟨s, d, env, typ⟩ (k' + 1) [] st)) = _
  rw [step_mono (fun l st s h => thr_le _ (by omega) h) h1]
  show bnd (stepG ⟨s, d, env, typ⟩ (thr ⟨s, d, env, typ⟩ (k' + 1)) ⟨1, [], name, [], [], [], []⟩ (a, met)) _ = _
  have : stepG ⟨s, d, env, typ⟩ (thr ⟨s, d, env, typ⟩ (k' + 1)) ⟨1, [], name, [], [], [], []⟩ (a, met) = some (a, met) := by
   show (bif met.contains name then some (a, met) else _) = _
   rw [List.contains_iff_mem.2 hmet]; rfl
  rw [this]; rfl
 have hb2 : bkSels [⟨1, [], name, [], [], [], []⟩, ⟨1, [], name, [], [], [], []⟩] = 2 * (name.length + 8) := by
  simp only [bkSels, bkSel_eq, bk1, bkStr, bkSl, sumL, List.length_nil]; omega
 have hbc := grp_ok htwo (by rw [hb2]; omega)
 cases hF : (gFrag d name).2
 ·have := hno hF
  subst this
  have z1 : ((List.length ([] : List GGroup) : Int) == 0) = true := rfl
  simp only [seinelaw25_CollectOnce_B, hb1, bnd_s, awake_ok, hn, hac, hbc, hf, hsame, cnd_t, hF, cnd_f, z1, cnd_same]
 ·simp only [seinelaw25_CollectOnce_B, hb1, bnd_s, awake_ok, hn, hac, hbc, hf, hsame, cnd_t, hF, cnd_same]
def belowL (l : List GSel) : List GSel := l.foldl (fun a x => a ++ x.sels) []
theorem belowL_bk : ∀ (l a : List GSel), bkSels (l.foldl (fun a x => a ++ x.sels) a) ≤ bkSels a + bkSels l
 | [], a => by simp [bkSels]
 | x :: l, a => by
  have := belowL_bk l (a ++ x.sels)
  have h2 := bkSel_sels x
  rw [List.foldl_cons]
  rw [bkSels_app] at this
  rw [bkS_cons]; omega
theorem bkSels_take (k : Nat) (l : List GSel) : bkSels (l.take k) ≤ bkSels l := by
 have := bkSels_app (l.take k) (l.drop k)
 rw [List.take_append_drop] at this
 omega
theorem below_fold {b : (List GSel) × Int → Option (((List GSel) × Int) ⊕ (List GSel))} (l : List GSel) (hl : bkSels l < 268435456)
  (hnil : ∀ a, b (a, (l.length : Int)) = some (.inr a)) (hcons : ∀ (k : Nat) (x : GSel) (a : List GSel), decide ((k : Int) < (l.length : Int)) = true → nthI l (k : Int) = some x → IntKind.wrap .i64 ((k : Int) + 1) = ((k + 1 : Nat) : Int) → tapp a x.sels = some (a ++ x.sels) → b (a, (k : Int)) = some (.inl (a ++ x.sels, ((k + 1 : Nat) : Int)))) : tloop b ([], 0) = some (belowL l) := by
 have hlen := bkSels_len l
 exact loop_fold (b := b) l (fun k a => (a, (k : Int))) (fun a x => a ++ x.sels) id (fun k a => bkSels a ≤ bkSels (l.take k)) (by show l.length < _; omega) (fun a _ => hnil a) (fun k x a hm hk h1 h2 h3 hi => by
  have e : l.take (k + 1) = l.take k ++ [x] := by
   rw [List.take_succ]
   rw [nthI_nat] at h2
   rw [h2]; rfl
  have h4 := bkSel_sels x
  have h5 := bkSels_take (k + 1) l
  rw [e, bkSels_app, bkS_cons] at h5
  have h6 := bkSels_len a
  have h7 := bkSels_len x.sels
  refine ⟨hcons k x a h1 h2 h3 (tapp_ok (by rw [lim_val]; omega)), ?_⟩
  rw [e, bkSels_app, bkSels_app, bkS_cons]; omega) (s := ([], 0)) (a := []) rfl (by simp [bkSels])
theorem collect_Below_ok (l : List GSel) (hl : bkSels l < 268435456) : collect_Below l = some (belowL l) := by
 apply collect_Below_run
 unfold collect_Below_B
 rw [below_fold l hl (fun a => by simp [collect_Below_l1T]) (fun k x a h1 h2 h3 h4 => by simp only [collect_Below_l1T, h1, cnd_t, h2, bnd_s, h4, h3])]
 rfl
theorem seineref23_Below_ok (l : List GSel) (hl : bkSels l < 268435456) : seineref23_Below l = some (belowL l) := by
 apply seineref23_Below_run
 unfold seineref23_Below_B
 rw [below_fold l hl (fun a => by simp [seineref23_Below_l1T]) (fun k x a h1 h2 h3 h4 => by simp only [seineref23_Below_l1T, h1, cnd_t, h2, bnd_s, h4, h3])]
 rfl
theorem seineref23_Applies_ok (s : GSchema) (typ on0 : Str) (h : SOk s) : seineref23_Applies s typ on0 = some (gApplies s typ on0) := by
 apply seineref23_Applies_run
 unfold seineref23_Applies_B gApplies
 cases h1 : on0 == ([] : Str)
 ·cases h2 : on0 == typ
  ·have hl := possD_len s on0 h
   rw [gPoss_eq] at hl
   simp only [cnd, seineref9_Possible_ok s on0 h, gPoss_eq, bnd, seineref1_Has_ok (gPoss s on0) typ (show (gPoss s on0).length < _ by omega), Bool.false_or]
  ·rfl
 ·rfl
theorem seinelaw25_CollectBelow_ok (s : GSchema) (typ on0 : Str) (l : List GSel) (h : bkSels l + bkSchema s ≤ 100000000) : seinelaw25_CollectBelow s typ on0 l = some true := by
 apply seinelaw25_CollectBelow_run
 obtain ⟨b1, hb1⟩ := light_ex s ⟨[], []⟩ l ⟨by omega⟩ (by rw [bkDoc_eq]; simp only [bkSl, sumL]; omega) (by omega)
 have hb := belowL_bk l []
 have hbl : bkSels (belowL l) < 1073741824 := by
  have e : bkSels ([] : List GSel) = 0 := by simp [bkSels]
  unfold belowL; omega
 simp only [seinelaw25_CollectBelow_B, hb1, bnd_s, awake_ok, sels_keep l (by omega), collect_Below_ok l (by omega), seineref23_Below_ok l (by omega), sameSels_self _ hbl, cnd_t, gApplies_ok s typ on0 ⟨by omega⟩, seineref23_Applies_ok s typ on0 ⟨by omega⟩, beq_self_eq_true, cnd_same]
open Go.ChangeShapes Go.WideShapes Go.ChangeAt Go.RowKit
theorem mixed : Try.prog.follows .mixedOrders = true := by kernel_rfl
theorem names : (Try.prog.funcs.toList.all fun fn => !fn.body.isSome || !(fn.name == "runtime.NumGoroutine")) = true := by kernel_rfl
theorem laid : laidOutB Try.prog = true := by kernel_rfl
theorem pok : POk Try.prog := by
 refine ⟨mixed, fun f fn hf hb => ?_⟩
 have hm : fn ∈ Try.prog.funcs.toList := by
  have := Array.mem_of_getElem? hf
  simpa using this
 have := List.all_eq_true.1 names fn hm
 rw [hb] at this
 simpa using this
theorem blOk {H : Type} : BlOk (H := H) Rows.uptoBulk Rows.uptoBulkAll := by
 refine ⟨fun l => ?_, fun s => ?_, ?_, fun es sp => ?_, fun ps => ?_, fun d r => ?_⟩
 ·cases l <;> simp [Rows.uptoBulk]
 ·simp [Rows.uptoBulk]
 ·simp [Rows.uptoBulk]
 ·simp only [Rows.uptoBulk]; omega
 ·simp only [Rows.uptoBulk]; omega
 ·simp [Rows.uptoBulkAll]
theorem own : ownKnob Try.prog.godebug = none := by kernel_rfl
end Go.Proofs.Ytfbaogfcpldlnaa
