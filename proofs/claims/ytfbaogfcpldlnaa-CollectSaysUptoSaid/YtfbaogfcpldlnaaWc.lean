import Derived.Test.YtfbaogfcpldlnaaGc
import Derived.Test.YtfbaogfcpldlnaaWb
import Derived.Test.YtfbaogfcpldlnaaWt
import Derived.Test.YtfbaogfcpldlnaaGa
import Derived.Test.YtfbaogfcpldlnaaRows
import Derived.WalkKit
import Derived.ProofKit
import Derived.OpenShut
import Derived.JoinedCond
import Derived.Test.YtfbaogfcpldlnaaEd
set_option linter.unusedVariables false
set_option linter.unusedSimpArgs false
set_option linter.unusedSimpArgs false
open Go Go.Ev
namespace Go.Proofs.Ytfbaogfcpldlnaa
def totB : List GGroup → Nat
 | [] => 0
 | g :: l => bkSels g.sels + totB l
theorem bkSels_app (l m : List GSel) : bkSels (l ++ m) = bkSels l + bkSels m := by rw [bkSels_eq, bkSels_eq, bkSels_eq, sumL_append]
theorem totB_put (k : Str) (x : GSel) : ∀ l : List GGroup, totB (putG l k x) = totB l + bkSel x
 | [] => by simp only [putG, totB, bkSels]; omega
 | g :: l => by
  simp only [putG]
  split
  ·simp only [totB, bkSels_app, bkSels]; omega
  ·simp only [totB, totB_put k x l]; omega
theorem totB_mem : ∀ {l : List GGroup} {g : GGroup}, g ∈ l → bkSels g.sels ≤ totB l
 | a :: l, g, h => by
  simp only [totB]
  rcases List.mem_cons.1 h with rfl | h
  ·omega
  ·have := totB_mem h; omega
theorem totB_len : ∀ (l : List GGroup), (∀ g ∈ l, g.sels ≠ []) → l.length ≤ totB l
 | [], _ => Nat.le_refl _
 | g :: l, h => by
  have h1 := totB_len l (fun g hg => h g (by simp [hg]))
  have h2 : 0 < g.sels.length := List.length_pos_iff.2 (h g (by simp))
  have h3 := bkSels_len g.sels
  simp only [totB, List.length_cons]; omega
def potB (e : GEnv) (st : GSt) : Nat := totB st.1 + unmet e.d.frags st.2
theorem step_potB {e : GEnv} {r : List GSel → GSt → Option GSt} (hr : ∀ l st s, r l st = some s → potB e s ≤ potB e st + bkSels l) {x : GSel} {st s : GSt} (h : stepG e r x st = some s) : potB e s ≤ potB e st + bkSel x := by
 have hx := bkS_sels x
 have hu := unmet_le x.name st.2 e.d.frags
 unfold stepG at h
 cases h1 : gHolds e.env x.dirs <;> rw [h1] at h
 ·cases h; omega
 cases h2 : x.kind == 0 <;> rw [h2] at h
 ·cases h3 : x.kind == 1 <;> rw [h3] at h
  ·cases h4 : x.kind == 2 <;> rw [h4] at h
   ·cases h; omega
   ·cases h5 : gApplies e.s e.typ x.on_ <;> rw [h5] at h
    ·cases h; omega
    ·have := hr _ _ _ h; omega
  ·cases h4 : st.2.contains x.name <;> rw [h4] at h
   ·cases h5 : (gFrag e.d x.name).2 && gApplies e.s e.typ (gFrag e.d x.name).1.on_ <;> rw [h5] at h
    ·cases h
     simp only [potB]; omega
    ·have h6 := hr _ _ _ h
     rw [Bool.and_eq_true] at h5
     have h7 : unmet e.d.frags (st.2 ++ [x.name]) + bkSels (gFrag e.d x.name).1.sels ≤ unmet e.d.frags st.2 := by
      have h2 := h5.1
      unfold gFrag at h2 ⊢
      cases hff : e.d.frags.find? (fun f => f.name == x.name) with
      | none => rw [hff] at h2; simp at h2
      | some f =>
       have := unmet_mem h4 hff
       have := bkF_sels f
       simp only; omega
     simp only [potB] at h6 ⊢; omega
   ·cases h; omega
 ·cases h
  simp only [potB, totB_put]
  omega
theorem thr_potB (e : GEnv) : ∀ (n : Nat) (l : List GSel) (st s : GSt), thr e n l st = some s → potB e s ≤ potB e st + bkSels l
 | 0, _, _, _, h => by simp [thr] at h
 | n + 1, [], st, s, h => by simp only [thr, Option.some.injEq] at h; subst h; omega
 | n + 1, x :: l, st, s, h => by
  simp only [thr] at h
  obtain ⟨s1, h1, h2⟩ := Ev.bnd_some h
  have := step_potB (thr_potB e n) h1
  have := thr_potB e n l s1 s h2
  rw [bkS_cons]; omega
def Grp (e : GEnv) (l : List GSel) (gs : List GGroup) : Prop := ∃ n met, thr e n l ([], []) = some (gs, met)
theorem Grp.det {e : GEnv} {l : List GSel} {gs gs' : List GGroup} (h : Grp e l gs) (h' : Grp e l gs') : gs = gs' := by
 obtain ⟨n, m, h⟩ := h
 obtain ⟨n', m', h'⟩ := h'
 have := thr_det e h h'
 exact congrArg Prod.fst this
theorem Grp.keys {e : GEnv} {l : List GSel} {gs : List GGroup} (h : Grp e l gs) : KeysOk e gs := by
 obtain ⟨n, m, h⟩ := h
 exact thr_keys h
theorem Grp.bk {e : GEnv} {l : List GSel} {gs : List GGroup} (h : Grp e l gs) : totB gs ≤ bkDoc e.d + bkSels l := by
 obtain ⟨n, m, h⟩ := h
 have h1 := thr_potB e n l _ _ h
 have hu := unmet_bk [] e.d.frags
 have hf := bkDoc_frags e.d
 simp only [potB] at h1
 have : totB ([] : List GGroup) = 0 := rfl
 omega
theorem szMem (m : List GMember) {h : Nat} (hm : bkSl bkMember m ≤ h) : m.length ≤ h ∧ ∀ x ∈ m, szV x.v ≤ h := by
 refine ⟨by have := sl_len bkMember_pos m; omega, fun x hx => ?_⟩
 have h1 := sl_mem (f := bkMember) hx
 have h2 := szV_bk x.v
 rw [bkMember_eq] at h1
 omega
theorem members_self (m : List GMember) (h : bkSl bkMember m < 1073741824) : seineref1_Members m m = some true := by
 obtain ⟨h1, h2⟩ := szMem m (Nat.le_refl _)
 exact members_of m (by omega) fun x hx => seineref1_Same_self x.v (by have := h2 x hx; omega)
theorem sameSels_self' : ∀ (n : Nat) (l : List GSel), bkSels l ≤ n → n < 1073741824 → seineref6_SameSels l l = some true := by
 intro n
 induction n with
 | zero =>
  intro l h _
  have := bkSels_len l
  have hs : l = [] := List.length_eq_zero_iff.1 (by omega)
  subst hs
  exact seineref6_SameSels_run (by unfold seineref6_SameSels_B; rw [tloop_exit (r := .inl ()) (by simp [seineref6_SameSels_l1T])]; rfl)
 | succ n ih =>
  intro l h hn
  have hl := bkSels_len l
  have hr := loop_all (b := seineref6_SameSels_l1T l l) l (.inl ()) (by show l.length < _; omega) (by simp [seineref6_SameSels_l1T]) (by
   intro k x hx h1 h2 h3
   have hb := bkSels_mem hx
   have hb2 := bkSel_sels x
   have hb3 := hb
   rw [bkSel_eq] at hb3
   have g1 := members_self x.args (by omega)
   have g2 := seineref6_SameDirs_self x.dirs (by omega)
   have g3 := ih x.sels (by omega) (by omega)
   simp only [seineref6_SameSels_l1T, h1, cnd_t, h2, bnd_s, h3, bne_self_eq_false, beq_self_eq_true, Bool.not_true, cnd_f, g1, g2, g3])
  exact seineref6_SameSels_run (by simp only [seineref6_SameSels_B, bne_self_eq_false, cnd_f, hr, bnd_s]; rfl)
theorem sameSels_self (l : List GSel) (h : bkSels l < 1073741824) : seineref6_SameSels l l = some true := sameSels_self' _ l (Nat.le_refl _) h
theorem sels_keep' : ∀ (n : Nat) (l : List GSel), bkSels l ≤ n → n < 1073741824 → seinekeep_Sels l = some l := by
 intro n
 induction n with
 | zero =>
  intro l h _
  have := bkSels_len l
  have hs : l = [] := List.length_eq_zero_iff.1 (by omega)
  subst hs
  exact seinekeep_Sels_run (by unfold seinekeep_Sels_B; rw [tloop_exit (r := []) (by simp [seinekeep_Sels_l1T])]; rfl)
 | succ n ih =>
  intro l h hn
  have hl := bkSels_len l
  have hr := loop_copy (b := seinekeep_Sels_l1T l) l (fun k a => (a, (k : Int))) (by omega) (fun a => by simp [seinekeep_Sels_l1T]) (by
   intro k x a hx h1 h2 h3 hap
   have hb := bkSels_mem hx
   have hb2 := bkSel_sels x
   have hb3 := hb
   rw [bkSel_eq] at hb3
   obtain ⟨q1, q2⟩ := szMem x.args (Nat.le_refl _)
   have g1 := members_keep x.args (by omega) (fun y hy => seinekeep_Value_ok y.v (by have := q2 y hy; omega))
   have g2 := seinekeep_Dirs_ok x.dirs (by omega)
   have g3 := ih x.sels (by omega) (by omega)
   simp only [seinekeep_Sels_l1T, h1, cnd_t, h2, bnd_s, g1, g2, g3, hap, h3]
   cases x; rfl) (s := ([], 0)) rfl
  exact seinekeep_Sels_run (by simp only [seinekeep_Sels_B, hr, bnd_s])
theorem sels_keep (l : List GSel) (h : bkSels l < 1073741824) : seinekeep_Sels l = some l := sels_keep' _ l (Nat.le_refl _) h
theorem sameGroups_self (l : List GGroup) (hl : l.length < 1073741824) (h : ∀ g ∈ l, bkSels g.sels < 1073741824) : seinelaw25_sameGroups l l = some true := by
 have hr := loop_all (b := seinelaw25_sameGroups_l1T l l) l (.inl ()) (by show l.length < _; omega) (by simp [seinelaw25_sameGroups_l1T]) (by
  intro k x hx h1 h2 h3
  simp only [seinelaw25_sameGroups_l1T, h1, cnd_t, h2, bnd_s, h3, beq_self_eq_true, Bool.not_true, cnd_f, sameSels_self x.sels (h x hx)])
 exact seinelaw25_sameGroups_run (by simp only [seinelaw25_sameGroups_B, bne_self_eq_false, cnd_f, hr, bnd_s]; rfl)
theorem Grp.same {e : GEnv} {l : List GSel} {gs : List GGroup} (h : Grp e l gs) (hb : bkDoc e.d + bkSels l < 1073741824) : seinelaw25_sameGroups gs gs = some true := by
 have h1 := h.bk
 have h2 := totB_len gs h.keys.ne
 exact sameGroups_self gs (by omega) fun g hg => by have := totB_mem hg; omega
open Go Go.Ev
theorem szArgs (m : List GMember) (h : bkSl bkMember m < 1073741824) : szV ⟨0, 0, [], [], m⟩ < 4611686018427387904 := by
 have h4 := szMs_bk m
 rw [bkMembers_eq] at h4
 simp only [szV, szVs, List.length_nil]
 have h5 : bkSl bkMember m = sumL bkMember m + 1 := rfl
 omega
theorem lightDirs7_ex (l : List GDir) (h : bkSl bkDir l < 1073741824) : ∃ n, seinelaw7_lightDirs l = some n := by
 have hl := sl_len (f := bkDir) (fun d => by rw [bkDir_eq]; omega) l
 obtain ⟨r, hr⟩ := loop_ex (b := seinelaw7_lightDirs_l1T l) l (fun k (a : Int) => (a, (k : Int))) (by show l.length < _; omega) (fun a => ⟨a, by simp [seinelaw7_lightDirs_l1T]⟩) (by
  intro k x a hx h1 h2 h3
  have hb := sl_mem (f := bkDir) hx
  rw [bkDir_eq] at hb
  right; simp only [seinelaw7_lightDirs_l1T, h1, cnd_t, h2, bnd_s, h3, seinekeep_Size_ok _ (szArgs x.args (by omega))]; exact ⟨_, rfl⟩) (s := (0, 0)) (a := 0) rfl
 exact ⟨r, seinelaw7_lightDirs_run (by simp only [seinelaw7_lightDirs_B, hr, bnd_s])⟩
theorem lightSels_ex' : ∀ (n : Nat) (l : List GSel), bkSels l ≤ n → n < 1073741824 → ∃ m, seinelaw7_lightSels l = some m := by
 intro n
 induction n with
 | zero =>
  intro l h _
  have := bkSels_len l
  have hs : l = [] := List.length_eq_zero_iff.1 (by omega)
  subst hs
  exact ⟨0, seinelaw7_lightSels_run (by unfold seinelaw7_lightSels_B; rw [tloop_exit (r := 0) (by simp [seinelaw7_lightSels_l1T])]; rfl)⟩
 | succ n ih =>
  intro l h hn
  have hl := bkSels_len l
  obtain ⟨r, hr⟩ := loop_ex (b := seinelaw7_lightSels_l1T l) l (fun k (a : Int) => (a, (k : Int))) (by show l.length < _; omega) (fun a => ⟨a, by simp [seinelaw7_lightSels_l1T]⟩) (by
   intro k x a hx h1 h2 h3
   have hb := bkSels_mem hx
   have hb2 := bkSel_sels x
   have hb3 := hb
   rw [bkSel_eq] at hb3
   obtain ⟨m1, g1⟩ := lightDirs7_ex x.dirs (by omega)
   obtain ⟨m2, g2⟩ := ih x.sels (by omega) (by omega)
   right; simp only [seinelaw7_lightSels_l1T, h1, cnd_t, h2, bnd_s, h3, seinekeep_Size_ok _ (szArgs x.args (by omega)), g1, g2]; exact ⟨_, rfl⟩) (s := (0, 0)) (a := 0) rfl
  exact ⟨r, seinelaw7_lightSels_run (by simp only [seinelaw7_lightSels_B, hr, bnd_s])⟩
theorem lightSels_ex (l : List GSel) (h : bkSels l < 1073741824) : ∃ m, seinelaw7_lightSels l = some m := lightSels_ex' _ l (Nat.le_refl _) h
theorem seinelaw7_Light_ex (d : GDoc) (h : bkDoc d < 1073741824) : ∃ b, seinelaw7_Light d = some b := by
 rw [bkDoc_eq] at h
 have ho := sl_len (f := bkOp) (fun d => by rw [bkOp_eq]; omega) d.ops
 have hf := sl_len bkFrag_pos d.frags
 obtain ⟨r, hr⟩ := loop_ex (b := seinelaw7_Light_l2T d) d.ops (fun k (a : Int) => (a, (k : Int))) (by show d.ops.length < _; omega) (fun a => ⟨a, by simp [seinelaw7_Light_l2T]⟩) (by
  intro k o a hx h1 h2 h3
  have hb := sl_mem (f := bkOp) hx
  rw [bkOp_eq] at hb
  obtain ⟨m1, g1⟩ := lightDirs7_ex o.dirs (by omega)
  obtain ⟨m2, g2⟩ := lightSels_ex o.sels (by rw [bkSels_eq]; have e : bkSl bkSel o.sels = sumL bkSel o.sels + 1 := rfl; omega)
  have hv := sl_len (f := bkVarDef) (fun d => by rw [bkVarDef_eq]; omega) o.vars
  have hin : ∀ n0 : Int, ∃ n, tloop (seinelaw7_Light_l1T d (k : Int)) (n0, 0) = some n := by
   intro n0
   refine loop_ex (b := seinelaw7_Light_l1T d (k : Int)) o.vars (fun k (a : Int) => (a, (k : Int))) (by show o.vars.length < _; omega) (fun a => ⟨a, by simp [seinelaw7_Light_l1T, h2]⟩) (by
    intro j v a hv h4 h5 h6
    have hvb := sl_mem (f := bkVarDef) hv
    rw [bkVarDef_eq] at hvb
    have hs := szV_bk v.default
    right; simp only [seinelaw7_Light_l1T, h2, bnd_s, h4, cnd_t, h5, h6, seinekeep_Size_ok v.default (by omega)]; exact ⟨_, rfl⟩) (a := n0) rfl
  right
  simp only [seinelaw7_Light_l2T, h1, cnd_t, h2, bnd_s, h3, g1, g2]
  obtain ⟨n, hn⟩ := hin (IntKind.wrap .i64 ((IntKind.wrap .i64 ((IntKind.wrap .i64 ((IntKind.wrap .i64 (a + 1)) + m1)) + m2)) + (List.length o.name : Int)))
  rw [hn]
  exact ⟨n, rfl⟩) (s := (0, 0)) (a := 0) rfl
 obtain ⟨q, hq⟩ := loop_ex (b := seinelaw7_Light_l3T d) d.frags (fun k (a : Int) => (a, (k : Int))) (by show d.frags.length < _; omega) (fun a => ⟨a, by simp [seinelaw7_Light_l3T]⟩) (by
  intro k f a hx h1 h2 h3
  have hb := sl_mem (f := bkFrag) hx
  rw [bkFrag_eq] at hb
  obtain ⟨m1, g1⟩ := lightDirs7_ex f.dirs (by omega)
  obtain ⟨m2, g2⟩ := lightSels_ex f.sels (by rw [bkSels_eq]; have e : bkSl bkSel f.sels = sumL bkSel f.sels + 1 := rfl; omega)
  right; simp only [seinelaw7_Light_l3T, h1, cnd_t, h2, bnd_s, h3, g1, g2]; exact ⟨_, rfl⟩) (s := (r, 0)) (a := r) rfl
 exact ⟨decide (q ≤ 3200), seinelaw7_Light_run (by simp only [seinelaw7_Light_B, hr, bnd_s, hq])⟩
theorem bkDoc_one (l : List GSel) : bkDoc ⟨[], [⟨[], [], [], l⟩]⟩ = bkSels l + 8 := by
 rw [bkDoc_eq, bkSels_eq]; simp only [bkSl, sumL, bkFrag_eq, bkStr, List.length_nil]; omega
theorem light_ex (s : GSchema) (d : GDoc) (l : List GSel) (hs : SOk s) (hd : bkDoc d < 1073741824) (hl : bkSels l < 1073741816) : ∃ b, seinelaw25_light s d l = some b := by
 obtain ⟨b1, h1⟩ := seinelaw8_Light_ex s hs
 obtain ⟨b2, h2⟩ := seinelaw7_Light_ex d hd
 obtain ⟨b3, h3⟩ := seinelaw7_Light_ex ⟨[], [⟨[], [], [], l⟩]⟩ (by rw [bkDoc_one]; omega)
 refine ⟨b1 && (b2 && b3), seinelaw25_light_run ?_⟩
 simp only [seinelaw25_light_B, h1, bnd_s, h2, h3]
 cases b1 <;> cases b2 <;> rfl
theorem awake_ok : seinelaw25_awake = some true := by
 apply seinelaw25_awake_run
 have h1 := collect_Groups_i1_ok ⟨[], [], []⟩ ⟨[], []⟩ [84] [(GSel.mk 0 [] [97] ([] : List GMember) ([] : List GDir) [] ([] : List GSel)), (GSel.mk 0 [98] [97] ([] : List GMember) ([] : List GDir) [] ([] : List GSel)), (GSel.mk 2 [] [] ([] : List GMember) ([] : List GDir) [] [(GSel.mk 0 [] [97] ([] : List GMember) ([] : List GDir) [] ([] : List GSel))])]
  [⟨[97], [(GSel.mk 0 [] [97] [] [] [] []), (GSel.mk 0 [] [97] [] [] [] [])]⟩, ⟨[98], [(GSel.mk 0 [98] [97] [] [] [] [])]⟩] (by kernel_rfl)
 have h2 := gApplies_ok ⟨[], [], []⟩ [84] [] ⟨by rw [bkSchema_eq]; simp only [bkSl, sumL, bkStr, List.length_nil]; omega⟩
 simp only [seinelaw25_awake_B, h1, bnd_s, holds_nil_ok, h2]
 rfl
theorem size_ex (env : List GMember) (h : bkSl bkMember env < 1073741824) : ∃ n, seinekeep_Size (GValue.mk 0 0 [] ([] : List GValue) env) = some n := ⟨_, seinekeep_Size_ok _ (szArgs env h)⟩
theorem grpF_ex (s : GSchema) (d : GDoc) (env : List GMember) (typ : Str) (l : List GSel) (hb : bkSels l + bkDoc d + bkSchema s + bkSl bkMember env ≤ 268435456) :
  ∃ gs, Grp ⟨s, d, env, typ⟩ l gs ∧ grpF (s, d, env, typ, l) = some gs := by
 have hu := unmet_bk [] d.frags
 have hf := bkDoc_frags d
 obtain ⟨⟨gs, met⟩, h1, h2⟩ := thr_ok ⟨s, d, env, typ⟩ (bkSels l + bkDoc d + 1) l ([], []) (by simp only; omega)
 refine ⟨gs, ⟨_, met, h1⟩, ?_⟩
 unfold grpF
 rw [if_pos hb]
 show Option.map _ (thr ⟨s, d, env, typ⟩ (bkSels l + bkDoc d + 1) l ([], [])) = _
 rw [h1]; rfl
theorem seinelaw25_CollectSays_ok (s : GSchema) (d : GDoc) (env : List GMember) (typ : Str) (l : List GSel) (h : bkSels l + bkDoc d + bkSchema s + bkSl bkMember env ≤ 268435456) : seinelaw25_CollectSays s d env typ l = some true := by
 apply seinelaw25_CollectSays_run
 obtain ⟨b1, hb1⟩ := light_ex s d l ⟨by omega⟩ (by omega) (by omega)
 obtain ⟨n, hn⟩ := size_ex env (by omega)
 obtain ⟨gs, hg, hF⟩ := grpF_ex s d env typ l h
 have henv := sl_len bkMember_pos env
 have he : Sm env := by show env.length < _; omega
 have hl := bkSels_len l
 have hr := loop_all (b := seinelaw25_CollectSays_l1T env l l) l (.inl ()) (by show l.length < _; omega) (by simp [seinelaw25_CollectSays_l1T]) (by
  intro k x hx h1 h2 h3
  have hb := bkSels_mem hx
  rw [bkSel_eq] at hb
  have hd1 : Sm x.dirs := by
   have := sl_len (f := bkDir) (fun d => by rw [bkDir_eq]; omega) x.dirs
   show x.dirs.length < _; omega
  have hd2 : ∀ d ∈ x.dirs, Sm d.args := by
   intro d hd
   have h1 := sl_mem (f := bkDir) hd
   rw [bkDir_eq] at h1
   have h2 := sl_len bkMember_pos d.args
   show d.args.length < _; omega
  simp only [seinelaw25_CollectSays_l1T, h1, cnd_t, h2, bnd_s, gHolds_ok env x.dirs he hd1 hd2, rHolds_ok env x.dirs he hd1 hd2, beq_self_eq_true, Bool.not_true, cnd_f, h3])
 simp only [seinelaw25_CollectSays_B, hb1, bnd_s, awake_ok, hn, sels_keep l (by omega), hr, elim, collect_Groups_ok s d env typ l gs hF, seineref23_Groups_ok s d env typ l gs hF, hg.same (by simp only; omega), sameSels_self l (by omega), cnd_t, cnd_same]
open Go.ChangeShapes Go.WideShapes Go.ChangeAt Go.RowKit
theorem mixed : Try.prog.follows .mixedOrders = true := by kernel_rfl
theorem names : (Try.prog.funcs.toList.all fun fn => !fn.body.isSome || !(fn.name == "runtime.NumGoroutine")) = true := by kernel_rfl
theorem laid : laidOutB Try.prog = true := by kernel_rfl
theorem pok : POk Try.prog := by
 refine ⟨mixed, fun f fn hf hb => ?_⟩
 have hm : fn ∈ Try.prog.funcs.toList := by
  have := Array.mem_of_getElem? hf
  simpa using this
 have := List.all_eq_true.1 names fn hm
 rw [hb] at this
 simpa using this
theorem blOk {H : Type} : BlOk (H := H) Rows.uptoBulk Rows.uptoBulkAll := by
 refine ⟨fun l => ?_, fun s => ?_, ?_, fun es sp => ?_, fun ps => ?_, fun d r => ?_⟩
 ·cases l <;> simp [Rows.uptoBulk]
 ·simp [Rows.uptoBulk]
 ·simp [Rows.uptoBulk]
 ·simp only [Rows.uptoBulk]; omega
 ·simp only [Rows.uptoBulk]; omega
 ·simp [Rows.uptoBulkAll]
theorem own : ownKnob Try.prog.godebug = none := by kernel_rfl
end Go.Proofs.Ytfbaogfcpldlnaa
