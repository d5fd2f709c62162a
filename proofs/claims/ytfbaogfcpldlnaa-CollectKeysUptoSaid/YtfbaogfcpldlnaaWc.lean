import Derived.Test.YtfbaogfcpldlnaaGd
import Derived.Test.YtfbaogfcpldlnaaWb
import Derived.Test.YtfbaogfcpldlnaaGc
import Derived.Test.YtfbaogfcpldlnaaGa
import Derived.Test.YtfbaogfcpldlnaaRows
import Derived.WalkKit
import Derived.ProofKit
import Derived.OpenShut
import Derived.JoinedCond
import Derived.Test.YtfbaogfcpldlnaaEd
set_option linter.unusedVariables false
set_option linter.unusedSimpArgs false
set_option linter.unusedSimpArgs false
open Go Go.Ev
namespace Go.Proofs.Ytfbaogfcpldlnaa
def totB : List GGroup → Nat
 | [] => 0
 | g :: l => bkSels g.sels + totB l
theorem bkSels_app (l m : List GSel) : bkSels (l ++ m) = bkSels l + bkSels m := by rw [bkSels_eq, bkSels_eq, bkSels_eq, sumL_append]
theorem totB_put (k : Str) (x : GSel) : ∀ l : List GGroup, totB (putG l k x) = totB l + bkSel x
 | [] => by simp only [putG, totB, bkSels]; omega
 | g :: l => by
  simp only [putG]
  split
  ·simp only [totB, bkSels_app, bkSels]; omega
  ·simp only [totB, totB_put k x l]; omega
theorem totB_mem : ∀ {l : List GGroup} {g : GGroup}, g ∈ l → bkSels g.sels ≤ totB l
 | a :: l, g, h => by
  simp only [totB]
  rcases List.mem_cons.1 h with rfl | h
  ·omega
  ·have := totB_mem h; omega
theorem totB_len : ∀ (l : List GGroup), (∀ g ∈ l, g.sels ≠ []) → l.length ≤ totB l
 | [], _ => Nat.le_refl _
 | g :: l, h => by
  have h1 := totB_len l (fun g hg => h g (by simp [hg]))
  have h2 : 0 < g.sels.length := List.length_pos_iff.2 (h g (by simp))
  have h3 := bkSels_len g.sels
  simp only [totB, List.length_cons]; omega
def potB (e : GEnv) (st : GSt) : Nat := totB st.1 + unmet e.d.frags st.2
theorem step_potB {e : GEnv} {r : List GSel → GSt → Option GSt} (hr : ∀ l st s, r l st = some s → potB e s ≤ potB e st + bkSels l) {x : GSel} {st s : GSt} (h : stepG e r x st = some s) : potB e s ≤ potB e st + bkSel x := by
 have hx := bkS_sels x
 have hu := unmet_le x.name st.2 e.d.frags
 unfold stepG at h
 cases h1 : gHolds e.env x.dirs <;> rw [h1] at h
 ·cases h; omega
 cases h2 : x.kind == 0 <;> rw [h2] at h
 ·cases h3 : x.kind == 1 <;> rw [h3] at h
  ·cases h4 : x.kind == 2 <;> rw [h4] at h
   ·cases h; omega
   ·cases h5 : gApplies e.s e.typ x.on_ <;> rw [h5] at h
    ·cases h; omega
    ·have := hr _ _ _ h; omega
  ·cases h4 : st.2.contains x.name <;> rw [h4] at h
   ·cases h5 : (gFrag e.d x.name).2 && gApplies e.s e.typ (gFrag e.d x.name).1.on_ <;> rw [h5] at h
    ·cases h
     simp only [potB]; omega
    ·have h6 := hr _ _ _ h
     rw [Bool.and_eq_true] at h5
     have h7 : unmet e.d.frags (st.2 ++ [x.name]) + bkSels (gFrag e.d x.name).1.sels ≤ unmet e.d.frags st.2 := by
      have h2 := h5.1
      unfold gFrag at h2 ⊢
      cases hff : e.d.frags.find? (fun f => f.name == x.name) with
      | none => rw [hff] at h2; simp at h2
      | some f =>
       have := unmet_mem h4 hff
       have := bkF_sels f
       simp only; omega
     simp only [potB] at h6 ⊢; omega
   ·cases h; omega
 ·cases h
  simp only [potB, totB_put]
  omega
theorem thr_potB (e : GEnv) : ∀ (n : Nat) (l : List GSel) (st s : GSt), thr e n l st = some s → potB e s ≤ potB e st + bkSels l
 | 0, _, _, _, h => by simp [thr] at h
 | n + 1, [], st, s, h => by simp only [thr, Option.some.injEq] at h; subst h; omega
 | n + 1, x :: l, st, s, h => by
  simp only [thr] at h
  obtain ⟨s1, h1, h2⟩ := Ev.bnd_some h
  have := step_potB (thr_potB e n) h1
  have := thr_potB e n l s1 s h2
  rw [bkS_cons]; omega
def Grp (e : GEnv) (l : List GSel) (gs : List GGroup) : Prop := ∃ n met, thr e n l ([], []) = some (gs, met)
theorem Grp.det {e : GEnv} {l : List GSel} {gs gs' : List GGroup} (h : Grp e l gs) (h' : Grp e l gs') : gs = gs' := by
 obtain ⟨n, m, h⟩ := h
 obtain ⟨n', m', h'⟩ := h'
 have := thr_det e h h'
 exact congrArg Prod.fst this
theorem grp_ex (s : GSchema) (d : GDoc) (env : List GMember) (typ : Str) (l : List GSel) (hb : bkSels l + bkDoc d + bkSchema s + bkSl bkMember env ≤ 268435456) :
  ∃ gs, Grp ⟨s, d, env, typ⟩ l gs ∧ collect_Groups s d env typ l = some gs := by
 have hu := unmet_bk [] d.frags
 have hf := bkDoc_frags d
 obtain ⟨⟨gs, met⟩, h1, h2⟩ := thr_ok ⟨s, d, env, typ⟩ (bkSels l + bkDoc d + 1) l ([], []) (by simp only; omega)
 refine ⟨gs, ⟨_, met, h1⟩, collect_Groups_ok s d env typ l gs ?_⟩
 unfold grpF
 rw [if_pos hb]
 show Option.map _ (thr ⟨s, d, env, typ⟩ (bkSels l + bkDoc d + 1) l ([], [])) = _
 rw [h1]; rfl
theorem Grp.keys {e : GEnv} {l : List GSel} {gs : List GGroup} (h : Grp e l gs) : KeysOk e gs := by
 obtain ⟨n, m, h⟩ := h
 exact thr_keys h
theorem Grp.bk {e : GEnv} {l : List GSel} {gs : List GGroup} (h : Grp e l gs) : totB gs ≤ bkDoc e.d + bkSels l := by
 obtain ⟨n, m, h⟩ := h
 have h1 := thr_potB e n l _ _ h
 have hu := unmet_bk [] e.d.frags
 have hf := bkDoc_frags e.d
 simp only [potB] at h1
 have : totB ([] : List GGroup) = 0 := rfl
 omega
theorem szMem (m : List GMember) {h : Nat} (hm : bkSl bkMember m ≤ h) : m.length ≤ h ∧ ∀ x ∈ m, szV x.v ≤ h := by
 refine ⟨by have := sl_len bkMember_pos m; omega, fun x hx => ?_⟩
 have h1 := sl_mem (f := bkMember) hx
 have h2 := szV_bk x.v
 rw [bkMember_eq] at h1
 omega
theorem members_self (m : List GMember) (h : bkSl bkMember m < 1073741824) : seineref1_Members m m = some true := by
 obtain ⟨h1, h2⟩ := szMem m (Nat.le_refl _)
 exact members_of m (by omega) fun x hx => seineref1_Same_self x.v (by have := h2 x hx; omega)
theorem sameSels_self' : ∀ (n : Nat) (l : List GSel), bkSels l ≤ n → n < 1073741824 → seineref6_SameSels l l = some true := by
 intro n
 induction n with
 | zero =>
  intro l h _
  have := bkSels_len l
  have hs : l = [] := List.length_eq_zero_iff.1 (by omega)
  subst hs
  exact seineref6_SameSels_run (by unfold seineref6_SameSels_B; rw [tloop_exit (r := .inl ()) (by simp [seineref6_SameSels_l1T])]; rfl)
 | succ n ih =>
  intro l h hn
  have hl := bkSels_len l
  have hr := loop_all (b := seineref6_SameSels_l1T l l) l (.inl ()) (by show l.length < _; omega) (by simp [seineref6_SameSels_l1T]) (by
   intro k x hx h1 h2 h3
   have hb := bkSels_mem hx
   have hb2 := bkSel_sels x
   have hb3 := hb
   rw [bkSel_eq] at hb3
   have g1 := members_self x.args (by omega)
   have g2 := seineref6_SameDirs_self x.dirs (by omega)
   have g3 := ih x.sels (by omega) (by omega)
   simp only [seineref6_SameSels_l1T, h1, cnd_t, h2, bnd_s, h3, bne_self_eq_false, beq_self_eq_true, Bool.not_true, cnd_f, g1, g2, g3])
  exact seineref6_SameSels_run (by simp only [seineref6_SameSels_B, bne_self_eq_false, cnd_f, hr, bnd_s]; rfl)
theorem sameSels_self (l : List GSel) (h : bkSels l < 1073741824) : seineref6_SameSels l l = some true := sameSels_self' _ l (Nat.le_refl _) h
theorem sels_keep' : ∀ (n : Nat) (l : List GSel), bkSels l ≤ n → n < 1073741824 → seinekeep_Sels l = some l := by
 intro n
 induction n with
 | zero =>
  intro l h _
  have := bkSels_len l
  have hs : l = [] := List.length_eq_zero_iff.1 (by omega)
  subst hs
  exact seinekeep_Sels_run (by unfold seinekeep_Sels_B; rw [tloop_exit (r := []) (by simp [seinekeep_Sels_l1T])]; rfl)
 | succ n ih =>
  intro l h hn
  have hl := bkSels_len l
  have hr := loop_copy (b := seinekeep_Sels_l1T l) l (fun k a => (a, (k : Int))) (by omega) (fun a => by simp [seinekeep_Sels_l1T]) (by
   intro k x a hx h1 h2 h3 hap
   have hb := bkSels_mem hx
   have hb2 := bkSel_sels x
   have hb3 := hb
   rw [bkSel_eq] at hb3
   obtain ⟨q1, q2⟩ := szMem x.args (Nat.le_refl _)
   have g1 := members_keep x.args (by omega) (fun y hy => seinekeep_Value_ok y.v (by have := q2 y hy; omega))
   have g2 := seinekeep_Dirs_ok x.dirs (by omega)
   have g3 := ih x.sels (by omega) (by omega)
   simp only [seinekeep_Sels_l1T, h1, cnd_t, h2, bnd_s, g1, g2, g3, hap, h3]
   cases x; rfl) (s := ([], 0)) rfl
  exact seinekeep_Sels_run (by simp only [seinekeep_Sels_B, hr, bnd_s])
theorem sels_keep (l : List GSel) (h : bkSels l < 1073741824) : seinekeep_Sels l = some l := sels_keep' _ l (Nat.le_refl _) h
theorem sameGroups_self (l : List GGroup) (hl : l.length < 1073741824) (h : ∀ g ∈ l, bkSels g.sels < 1073741824) : seinelaw25_sameGroups l l = some true := by
 have hr := loop_all (b := seinelaw25_sameGroups_l1T l l) l (.inl ()) (by show l.length < _; omega) (by simp [seinelaw25_sameGroups_l1T]) (by
  intro k x hx h1 h2 h3
  simp only [seinelaw25_sameGroups_l1T, h1, cnd_t, h2, bnd_s, h3, beq_self_eq_true, Bool.not_true, cnd_f, sameSels_self x.sels (h x hx)])
 exact seinelaw25_sameGroups_run (by simp only [seinelaw25_sameGroups_B, bne_self_eq_false, cnd_f, hr, bnd_s]; rfl)
theorem Grp.same {e : GEnv} {l : List GSel} {gs : List GGroup} (h : Grp e l gs) (hb : bkDoc e.d + bkSels l < 1073741824) : seinelaw25_sameGroups gs gs = some true := by
 have h1 := h.bk
 have h2 := totB_len gs h.keys.ne
 exact sameGroups_self gs (by omega) fun g hg => by have := totB_mem hg; omega
open Go Go.Ev
theorem szArgs (m : List GMember) (h : bkSl bkMember m < 1073741824) : szV ⟨0, 0, [], [], m⟩ < 4611686018427387904 := by
 have h4 := szMs_bk m
 rw [bkMembers_eq] at h4
 simp only [szV, szVs, List.length_nil]
 have h5 : bkSl bkMember m = sumL bkMember m + 1 := rfl
 omega
theorem lightDirs7_ex (l : List GDir) (h : bkSl bkDir l < 1073741824) : ∃ n, seinelaw7_lightDirs l = some n := by
 have hl := sl_len (f := bkDir) (fun d => by rw [bkDir_eq]; omega) l
 obtain ⟨r, hr⟩ := loop_ex (b := seinelaw7_lightDirs_l1T l) l (fun k (a : Int) => (a, (k : Int))) (by show l.length < _; omega) (fun a => ⟨a, by simp [seinelaw7_lightDirs_l1T]⟩) (by
  intro k x a hx h1 h2 h3
  have hb := sl_mem (f := bkDir) hx
  rw [bkDir_eq] at hb
  right; simp only [seinelaw7_lightDirs_l1T, h1, cnd_t, h2, bnd_s, h3, seinekeep_Size_ok _ (szArgs x.args (by omega))]; exact ⟨_, rfl⟩) (s := (0, 0)) (a := 0) rfl
 exact ⟨r, seinelaw7_lightDirs_run (by simp only [seinelaw7_lightDirs_B, hr, bnd_s])⟩
theorem lightSels_ex' : ∀ (n : Nat) (l : List GSel), bkSels l ≤ n → n < 1073741824 → ∃ m, seinelaw7_lightSels l = some m := by
 intro n
 induction n with
 | zero =>
  intro l h _
  have := bkSels_len l
  have hs : l = [] := List.length_eq_zero_iff.1 (by omega)
  subst hs
  exact ⟨0, seinelaw7_lightSels_run (by unfold seinelaw7_lightSels_B; rw [tloop_exit (r := 0) (by simp [seinelaw7_lightSels_l1T])]; rfl)⟩
 | succ n ih =>
  intro l h hn
  have hl := bkSels_len l
  obtain ⟨r, hr⟩ := loop_ex (b := seinelaw7_lightSels_l1T l) l (fun k (a : Int) => (a, (k : Int))) (by show l.length < _; omega) (fun a => ⟨a, by simp [seinelaw7_lightSels_l1T]⟩) (by
   intro k x a hx h1 h2 h3
   have hb := bkSels_mem hx
   have hb2 := bkSel_sels x
   have hb3 := hb
   rw [bkSel_eq] at hb3
   obtain ⟨m1, g1⟩ := lightDirs7_ex x.dirs (by omega)
   obtain ⟨m2, g2⟩ := ih x.sels (by omega) (by omega)
   right; simp only [seinelaw7_lightSels_l1T, h1, cnd_t, h2, bnd_s, h3, seinekeep_Size_ok _ (szArgs x.args (by omega)), g1, g2]; exact ⟨_, rfl⟩) (s := (0, 0)) (a := 0) rfl
  exact ⟨r, seinelaw7_lightSels_run (by simp only [seinelaw7_lightSels_B, hr, bnd_s])⟩
theorem lightSels_ex (l : List GSel) (h : bkSels l < 1073741824) : ∃ m, seinelaw7_lightSels l = some m := lightSels_ex' _ l (Nat.le_refl _) h
theorem seinelaw7_Light_ex (d : GDoc) (h : bkDoc d < 1073741824) : ∃ b, seinelaw7_Light d = some b := by
 rw [bkDoc_eq] at h
 have ho := sl_len (f := bkOp) (fun d => by rw [bkOp_eq]; omega) d.ops
 have hf := sl_len bkFrag_pos d.frags
 obtain ⟨r, hr⟩ := loop_ex (b := seinelaw7_Light_l2T d) d.ops (fun k (a : Int) => (a, (k : Int))) (by show d.ops.length < _; omega) (fun a => ⟨a, by simp [seinelaw7_Light_l2T]⟩) (by
  intro k o a hx h1 h2 h3
  have hb := sl_mem (f := bkOp) hx
  rw [bkOp_eq] at hb
  obtain ⟨m1, g1⟩ := lightDirs7_ex o.dirs (by omega)
  obtain ⟨m2, g2⟩ := lightSels_ex o.sels (by rw [bkSels_eq]; have e : bkSl bkSel o.sels = sumL bkSel o.sels + 1 := rfl; omega)
  have hv := sl_len (f := bkVarDef) (fun d => by rw [bkVarDef_eq]; omega) o.vars
  have hin : ∀ n0 : Int, ∃ n, tloop (seinelaw7_Light_l1T d (k : Int)) (n0, 0) = some n := by
   intro n0
   refine loop_ex (b := seinelaw7_Light_l1T d (k : Int)) o.vars (fun k (a : Int) => (a, (k : Int))) (by show o.vars.length < _; omega) (fun a => ⟨a, by simp [seinelaw7_Light_l1T, h2]⟩) (by
    intro j v a hv h4 h5 h6
    have hvb := sl_mem (f := bkVarDef) hv
    rw [bkVarDef_eq] at hvb
    have hs := szV_bk v.default
    right; simp only [seinelaw7_Light_l1T, h2, bnd_s, h4, cnd_t, h5, h6, seinekeep_Size_ok v.default (by omega)]; exact ⟨_, rfl⟩) (a := n0) rfl
  right
  simp only [seinelaw7_Light_l2T, h1, cnd_t, h2, bnd_s, h3, g1, g2]
  obtain ⟨n, hn⟩ := hin (IntKind.wrap .i64 ((IntKind.wrap .i64 ((IntKind.wrap .i64 ((IntKind.wrap .i64 (a + 1)) + m1)) + m2)) + (List.length o.name : Int)))
  rw [hn]
  exact ⟨n, rfl⟩) (s := (0, 0)) (a := 0) rfl
 obtain ⟨q, hq⟩ := loop_ex (b := seinelaw7_Light_l3T d) d.frags (fun k (a : Int) => (a, (k : Int))) (by show d.frags.length < _; omega) (fun a => ⟨a, by simp [seinelaw7_Light_l3T]⟩) (by
  intro k f a hx h1 h2 h3
  have hb := sl_mem (f := bkFrag) hx
  rw [bkFrag_eq] at hb
  obtain ⟨m1, g1⟩ := lightDirs7_ex f.dirs (by omega)
  obtain ⟨m2, g2⟩ := lightSels_ex f.sels (by rw [bkSels_eq]; have e : bkSl bkSel f.sels = sumL bkSel f.sels + 1 := rfl; omega)
  right; simp only [seinelaw7_Light_l3T, h1, cnd_t, h2, bnd_s, h3, g1, g2]; exact ⟨_, rfl⟩) (s := (r, 0)) (a := r) rfl
 exact ⟨decide (q ≤ 3200), seinelaw7_Light_run (by simp only [seinelaw7_Light_B, hr, bnd_s, hq])⟩
theorem bkDoc_one (l : List GSel) : bkDoc ⟨[], [⟨[], [], [], l⟩]⟩ = bkSels l + 8 := by
 rw [bkDoc_eq, bkSels_eq]; simp only [bkSl, sumL, bkFrag_eq, bkStr, List.length_nil]; omega
theorem light_ex (s : GSchema) (d : GDoc) (l : List GSel) (hs : SOk s) (hd : bkDoc d < 1073741824) (hl : bkSels l < 1073741816) : ∃ b, seinelaw25_light s d l = some b := by
 obtain ⟨b1, h1⟩ := seinelaw8_Light_ex s hs
 obtain ⟨b2, h2⟩ := seinelaw7_Light_ex d hd
 obtain ⟨b3, h3⟩ := seinelaw7_Light_ex ⟨[], [⟨[], [], [], l⟩]⟩ (by rw [bkDoc_one]; omega)
 refine ⟨b1 && (b2 && b3), seinelaw25_light_run ?_⟩
 simp only [seinelaw25_light_B, h1, bnd_s, h2, h3]
 cases b1 <;> cases b2 <;> rfl
theorem light_i1_ex (s : GSchema) (d : GDoc) (hs : SOk s) (hd : bkDoc d < 1073741824) : ∃ b, seinelaw25_light_i1 s d = some b := by
 obtain ⟨b1, h1⟩ := seinelaw8_Light_ex s hs
 obtain ⟨b2, h2⟩ := seinelaw7_Light_ex d hd
 obtain ⟨b3, h3⟩ := seinelaw7_Light_ex ⟨[], [⟨[], [], [], []⟩]⟩ (by rw [bkDoc_one]; simp only [bkSels]; omega)
 refine ⟨b1 && (b2 && b3), seinelaw25_light_i1_run ?_⟩
 simp only [seinelaw25_light_i1_B, h1, bnd_s, h2, h3]
 cases b1 <;> cases b2 <;> rfl
theorem awake_ok : seinelaw25_awake = some true := by
 apply seinelaw25_awake_run
 have h1 := collect_Groups_i1_ok ⟨[], [], []⟩ ⟨[], []⟩ [84] [(GSel.mk 0 [] [97] ([] : List GMember) ([] : List GDir) [] ([] : List GSel)), (GSel.mk 0 [98] [97] ([] : List GMember) ([] : List GDir) [] ([] : List GSel)), (GSel.mk 2 [] [] ([] : List GMember) ([] : List GDir) [] [(GSel.mk 0 [] [97] ([] : List GMember) ([] : List GDir) [] ([] : List GSel))])]
  [⟨[97], [(GSel.mk 0 [] [97] [] [] [] []), (GSel.mk 0 [] [97] [] [] [] [])]⟩, ⟨[98], [(GSel.mk 0 [98] [97] [] [] [] [])]⟩] (by kernel_rfl)
 have h2 := gApplies_ok ⟨[], [], []⟩ [84] [] ⟨by rw [bkSchema_eq]; simp only [bkSl, sumL, bkStr, List.length_nil]; omega⟩
 simp only [seinelaw25_awake_B, h1, bnd_s, holds_nil_ok, h2]
 rfl
theorem size_ex (env : List GMember) (h : bkSl bkMember env < 1073741824) : ∃ n, seinekeep_Size (GValue.mk 0 0 [] ([] : List GValue) env) = some n := ⟨_, seinekeep_Size_ok _ (szArgs env h)⟩
theorem keys_sels {e : GEnv} {l : List GSel} {gs : List GGroup} (h : Grp e l gs) (hb : bkDoc e.d + bkSels l < 1073741824) (he : Sm e.env) {g : GGroup} (hg : g ∈ gs) :
  g.sels.length < 1073741824 ∧ ∀ x ∈ g.sels, x.kind = 0 ∧ gKey x = g.key ∧ collect_Holds e.env x.dirs = some true := by
 have h1 := h.bk
 have h2 := totB_mem hg
 have h3 := bkSels_len g.sels
 refine ⟨by omega, fun x hx => ?_⟩
 obtain ⟨k1, k2, k3⟩ := h.keys.own g hg x hx
 have hxb := bkSels_mem hx
 rw [bkSel_eq] at hxb
 refine ⟨k1, k2, ?_⟩
 rw [← k3]
 refine gHolds_ok e.env x.dirs he ?_ ?_
 ·have := sl_len (f := bkDir) (fun d => by rw [bkDir_eq]; omega) x.dirs
  show x.dirs.length < _; omega
 ·intro d hd
  have h1 := sl_mem (f := bkDir) hd
  rw [bkDir_eq] at h1
  have h2 := sl_len bkMember_pos d.args
  show d.args.length < _; omega
theorem nthI_take {α : Type} {l : List α} {n k : Nat} {x : α} (h : nthI (l.take n) (k : Int) = some x) : nthI l (k : Int) = some x ∧ k < n := by
 rw [nthI_nat] at h ⊢
 rw [List.getElem?_take] at h
 split at h
 ·exact ⟨h, by assumption⟩
 ·simp at h
theorem seinelaw25_CollectKeys_ok (s : GSchema) (d : GDoc) (env : List GMember) (typ : Str) (l : List GSel) (h : bkSels l + bkDoc d + bkSchema s + bkSl bkMember env ≤ 268435456) : seinelaw25_CollectKeys s d env typ l = some true := by
 apply seinelaw25_CollectKeys_run
 obtain ⟨b1, hb1⟩ := light_ex s d l ⟨by omega⟩ (by omega) (by omega)
 obtain ⟨n, hn⟩ := size_ex env (by omega)
 obtain ⟨gs, hg, hgs⟩ := grp_ex s d env typ l h
 have henv := sl_len bkMember_pos env
 have hk := hg.keys
 have hlen := totB_len gs hk.ne
 have hbk := hg.bk
 simp only at hbk
 have hr := loop_all (b := seinelaw25_CollectKeys_l3T env gs) gs (.inl ()) (by show gs.length < _; omega) (by simp [seinelaw25_CollectKeys_l3T]) (by
  intro i g hm h1 h2 h3
  obtain ⟨q1, q2⟩ := keys_sels hg (by simp only; omega) (by show env.length < _; omega) hm
  have hne := hk.ne g hm
  have hz : ((List.length g.sels : Int) == 0) = false := by
   have := List.length_pos_iff.2 hne
   simp; exact hne
  have r1 := loop_all (b := seinelaw25_CollectKeys_l1T env gs (i : Int)) g.sels (.inl ()) (by show g.sels.length < _; omega) (by simp [seinelaw25_CollectKeys_l1T, h2]) (by
   intro k x hx h4 h5 h6
   obtain ⟨a1, a2, a3⟩ := q2 x hx
   simp only at a3
   simp only [seinelaw25_CollectKeys_l1T, h2, bnd_s, h4, cnd_t, h5, h6, a1, gKey_ok, a2, a3, bne_self_eq_false, beq_self_eq_true, Bool.not_true, cnd_f])
  have hil : i < gs.length := by simpa using h1
  have r2 := loop_all (b := seinelaw25_CollectKeys_l2T gs (i : Int)) (gs.take i) (.inl ()) (by show (gs.take i).length < _; rw [List.length_take]; omega) (by
   rw [List.length_take, Nat.min_eq_left (by omega)]
   simp [seinelaw25_CollectKeys_l2T]) (by
   intro k x hx h4 h5 h6
   obtain ⟨h7, hki⟩ := nthI_take h5
   have h8 : decide ((k : Int) < (i : Int)) = true := by simp; exact hki
   have h9 : (x.key == g.key) = false := by
    have hnd := hk.once
    rw [nthI_nat] at h7 h2
    rw [Bool.eq_false_iff]
    intro heq
    have heq := eq_of_beq heq
    obtain ⟨k1, k2⟩ := List.getElem?_eq_some_iff.1 h7
    obtain ⟨i1, i2⟩ := List.getElem?_eq_some_iff.1 h2
    have := List.pairwise_iff_getElem.1 hnd k i (by rw [List.length_map]; exact k1) (by rw [List.length_map]; exact i1) hki
    simp only [List.getElem_map, k2, i2] at this
    exact this heq
   simp only [seinelaw25_CollectKeys_l2T, h8, cnd_t, h7, bnd_s, h2, h9, cnd_f, h6])
  simp only [seinelaw25_CollectKeys_l3T, h1, cnd_t, h2, bnd_s, hz, cnd_f, r1, r2, elim, h3])
 simp only [seinelaw25_CollectKeys_B, hb1, bnd_s, awake_ok, hn, hgs, hr, elim, cnd_same]
theorem Grp.front {e : GEnv} {l m : List GSel} {a b : List GGroup} (h : Grp e l a) (h' : Grp e (l ++ m) b) : FrontOf a b := by
 obtain ⟨n, met, h⟩ := h
 obtain ⟨n', met', h'⟩ := h'
 obtain ⟨s, k, h1, h2⟩ := thr_app e n' l m _ _ h'
 have := thr_det e h h1
 subst this
 exact thr_front h2
theorem seinelaw25_CollectFront_ok (s : GSchema) (d : GDoc) (env : List GMember) (typ : Str) (l m : List GSel) (h : bkSels l + bkSels m + bkDoc d + bkSchema s + bkSl bkMember env ≤ 268435456) : seinelaw25_CollectFront s d env typ l m = some true := by
 apply seinelaw25_CollectFront_run
 obtain ⟨b1, hb1⟩ := light_ex s d l ⟨by omega⟩ (by omega) (by omega)
 obtain ⟨b2, hb2⟩ := light_ex s d m ⟨by omega⟩ (by omega) (by omega)
 obtain ⟨n, hn⟩ := size_ex env (by omega)
 have hl := bkSels_len l
 have hm := bkSels_len m
 have t1 : tapp ([] : List GSel) l = some l := by rw [tapp_ok (by simp [lim_val]; omega)]; rfl
 have t2 : tapp l m = some (l ++ m) := tapp_ok (by rw [lim_val]; omega)
 obtain ⟨a, ha, hac⟩ := grp_ex s d env typ l (by omega)
 obtain ⟨b, hb, hbc⟩ := grp_ex s d env typ (l ++ m) (by rw [bkSels_app]; omega)
 have hF := ha.front hb
 have hlen := hF.len
 have hak := ha.bk
 have hal := totB_len a ha.keys.ne
 have hbk := hb.bk
 rw [bkSels_app] at hbk
 simp only at hak hbk
 have hr := loop_all (b := seinelaw25_CollectFront_l1T a b) a (.inl ()) (by show a.length < _; omega) (by simp [seinelaw25_CollectFront_l1T]) (by
  intro i g hg h1 h2 h3
  rw [nthI_nat] at h2
  obtain ⟨g', q1, q2, t, q3⟩ := hF i g h2
  have h2' : nthI a (i : Int) = some g := by rw [nthI_nat]; exact h2
  have q1' : nthI b (i : Int) = some g' := by rw [nthI_nat]; exact q1
  have c1 : decide ((List.length g'.sels : Int) < (List.length g.sels : Int)) = false := by rw [q3, List.length_append, decide_eq_false_iff_not]; omega
  have hg1 := totB_mem hg
  have hg2 := totB_mem (List.mem_of_getElem? q1)
  have hsl : tslc g'.sels 0 (List.length g.sels : Int) = some g.sels := by
   rw [tslc_ok (by rw [q3, List.length_append]; omega), q3]
   simp
  have hs := sameSels_self g.sels (by omega)
  simp only [seinelaw25_CollectFront_l1T, h1, cnd_t, h2', q1', bnd_s, q2, beq_self_eq_true, Bool.not_true, cnd_f, c1, hsl, hs, h3])
 have c0 : decide ((List.length b : Int) < (List.length a : Int)) = false := by simp; omega
 simp only [seinelaw25_CollectFront_B, hb1, hb2, bnd_s, awake_ok, hn, hac, t1, t2, hbc, c0, cnd_f, hr, elim, cnd_same]
theorem grp_step {e : GEnv} {x : GSel} {n : Nat} {s : GSt} (h : stepG e (thr e n) x ([], []) = some s) : Grp e [x] s.1 := by
 have h1 := step_mono (thr_succ e n) h
 refine ⟨n + 2, s.2, ?_⟩
 show bnd (stepG e (thr e (n + 1)) x ([], [])) (fun st => thr e (n + 1) [] st) = _
 rw [h1]; rfl
theorem Grp.inline {e : GEnv} {l : List GSel} {gs : List GGroup} (h : Grp e l gs) (x : GSel) (h1 : gHolds e.env x.dirs = true) (h2 : x.kind = 2) (h3 : x.sels = l) (h4 : gApplies e.s e.typ x.on_ = true) : Grp e [x] gs := by
 obtain ⟨n, met, h⟩ := h
 have : stepG e (thr e n) x ([], []) = some (gs, met) := by
  unfold stepG
  rw [h1, h2, h4, h3]; exact h
 exact grp_step this
theorem grp_none {e : GEnv} (x : GSel) (h2 : x.kind = 2) (h : gHolds e.env x.dirs = false ∨ gApplies e.s e.typ x.on_ = false) : Grp e [x] [] := by
 have : stepG e (thr e 0) x ([], []) = some ([], []) := by
  unfold stepG
  rcases h with h | h
  ·rw [h]; rfl
  ·rw [h, h2]
   cases gHolds e.env x.dirs <;> rfl
 exact grp_step this
theorem grp_ok {s : GSchema} {d : GDoc} {env : List GMember} {typ : Str} {l : List GSel} {gs : List GGroup} (h : Grp ⟨s, d, env, typ⟩ l gs) (hb : bkSels l + bkDoc d + bkSchema s + bkSl bkMember env ≤ 268435456) : collect_Groups s d env typ l = some gs := by
 obtain ⟨gs', h1, h2⟩ := grp_ex s d env typ l hb
 rw [h2, h1.det h]
theorem bk_inline (ds : List GDir) (on0 : Str) (l : List GSel) : bkSels [⟨2, [], [], [], ds, on0, l⟩] = bkSl bkDir ds + on0.length + bkSels l + 7 := by
 simp only [bkSels, bkSel_eq, bk1, bkStr, bkSl, sumL, List.length_nil, bkSels_eq]; omega
theorem seinelaw25_CollectWraps_ok (s : GSchema) (d : GDoc) (env : List GMember) (typ : Str) (l : List GSel) (on0 : Str) (h : bkSels l + bkDoc d + bkSchema s + bkSl bkMember env + typ.length + on0.length ≤ 100000000) : seinelaw25_CollectWraps s d env typ l on0 = some true := by
 apply seinelaw25_CollectWraps_run
 obtain ⟨b1, hb1⟩ := light_ex s d l ⟨by omega⟩ (by omega) (by omega)
 obtain ⟨n, hn⟩ := size_ex env (by omega)
 obtain ⟨a, ha, hac⟩ := grp_ex s d env typ l (by omega)
 have hsame := ha.same (by simp only; omega)
 have d0 : bkSl bkDir ([] : List GDir) = 1 := rfl
 have d1 : bkSl bkDir [(GDir.mk [115, 107, 105, 112] [(GMember.mk [105, 102] (GValue.mk 1 1 [] ([] : List GValue) ([] : List GMember)))])] ≤ 100 := by
  simp only [bkSl, sumL, bkDir_eq, bkMember_eq, bkValue_eq, bkStr, bk1, List.length_cons, List.length_nil]; omega
 have d2 : bkSl bkDir [(GDir.mk [105, 110, 99, 108, 117, 100, 101] [(GMember.mk [105, 102] (GValue.mk 1 1 [] ([] : List GValue) ([] : List GMember)))])] ≤ 100 := by
  simp only [bkSl, sumL, bkDir_eq, bkMember_eq, bkValue_eq, bkStr, bk1, List.length_cons, List.length_nil]; omega
 have g1 := grp_ok (ha.inline ⟨2, [], [], [], [], [], l⟩ rfl rfl rfl rfl) (by rw [bk_inline, d0, List.length_nil]; omega)
 have g2 := grp_ok (ha.inline ⟨2, [], [], [], [], typ, l⟩ rfl rfl rfl (by simp [gApplies])) (by rw [bk_inline, d0]; omega)
 have g4 := grp_ok (grp_none (e := ⟨s, d, env, typ⟩) ⟨2, [], [], [], [(GDir.mk [115, 107, 105, 112] [(GMember.mk [105, 102] (GValue.mk 1 1 [] ([] : List GValue) ([] : List GMember)))])], [], l⟩ rfl (.inl rfl)) (by rw [bk_inline, List.length_nil]; omega)
 have g5 := grp_ok (ha.inline ⟨2, [], [], [], [(GDir.mk [105, 110, 99, 108, 117, 100, 101] [(GMember.mk [105, 102] (GValue.mk 1 1 [] ([] : List GValue) ([] : List GMember)))])], [], l⟩ rfl rfl rfl rfl) (by rw [bk_inline, List.length_nil]; omega)
 have hap := gApplies_ok s typ on0 ⟨by omega⟩
 have z0 : ((List.length ([] : List GGroup) : Int) != 0) = false := rfl
 have z1 : ((List.length ([] : List GGroup) : Int) == 0) = true := rfl
 cases hA : gApplies s typ on0
 ·rw [hA] at hap
  have g3 := grp_ok (grp_none (e := ⟨s, d, env, typ⟩) ⟨2, [], [], [], [], on0, l⟩ rfl (.inr hA)) (by rw [bk_inline, d0]; omega)
  simp only [seinelaw25_CollectWraps_B, hb1, bnd_s, awake_ok, hn, hac, g1, g2, g3, g4, g5, hsame, Bool.not_true, cnd_f, cnd_t, z0, z1, hap, cnd_same]
 ·rw [hA] at hap
  have g3 := grp_ok (ha.inline ⟨2, [], [], [], [], on0, l⟩ rfl rfl rfl hA) (by rw [bk_inline, d0]; omega)
  simp only [seinelaw25_CollectWraps_B, hb1, bnd_s, awake_ok, hn, hac, g1, g2, g3, g4, g5, hsame, Bool.not_true, cnd_f, cnd_t, z0, hap, cnd_same]
theorem thr_met {e : GEnv} {n : Nat} {l : List GSel} {st s : GSt} (h : thr e n l st = some s) : ∀ m ∈ st.2, m ∈ s.2 :=
 thr_rel (fun a b => ∀ m ∈ a.2, m ∈ b.2) (fun _ _ h => h) (fun _ _ _ h k m hm => k m (h m hm)) (fun _ _ _ _ _ h => h) (fun _ _ _ h => List.mem_append_left _ h) n l st s h
theorem seinelaw25_CollectOnce_ok (s : GSchema) (d : GDoc) (env : List GMember) (typ name : Str) (h : bkDoc d + bkSchema s + bkSl bkMember env + typ.length + name.length ≤ 100000000) : seinelaw25_CollectOnce s d env typ name = some true := by
 apply seinelaw25_CollectOnce_run
 obtain ⟨b1, hb1⟩ := light_i1_ex s d ⟨by omega⟩ (by omega)
 obtain ⟨n, hn⟩ := size_ex env (by omega)
 have hbk : bkSels [⟨1, [], name, [], [], [], []⟩] = name.length + 8 := by
  simp only [bkSels, bkSel_eq, bk1, bkStr, bkSl, sumL, List.length_nil]; omega
 obtain ⟨a, ⟨k, met, ha⟩, hac⟩ := grp_ex s d env typ [⟨1, [], name, [], [], [], []⟩] (by rw [hbk]; omega)
 have hgrp : Grp ⟨s, d, env, typ⟩ [⟨1, [], name, [], [], [], []⟩] a := ⟨k, met, ha⟩
 have hsame := hgrp.same (by rw [hbk]; simp only; omega)
 have hf := gFrag_ok d name (by have := sl_len bkFrag_pos d.frags; have := bkDoc_eq d; show d.frags.length < _; omega)
 obtain ⟨k', rfl⟩ : ∃ k', k = k' + 1 := by
  cases k with
  | zero => simp [thr] at ha
  | succ k' => exact ⟨k', rfl⟩
 have ha0 := ha
 simp only [thr] at ha
 obtain ⟨s1, h1, h2⟩ := Ev.bnd_some ha
 have hs1 : s1 = (a, met) := by
  cases k' with
  | zero => simp [thr] at h2
  | succ k' => simpa [thr] using h2
 subst hs1
 have hst : (bif (gFrag d name).2 && gApplies s typ (gFrag d name).1.on_ then thr ⟨s, d, env, typ⟩ k' (gFrag d name).1.sels ([], [name]) else some ([], [name])) = some (a, met) := h1
 have hmet : name ∈ met := by
  cases hc : (gFrag d name).2 && gApplies s typ (gFrag d name).1.on_ <;> rw [hc] at hst
  ·cases hst; simp
  ·exact thr_met hst name (by simp)
 have hno : (gFrag d name).2 = false → a = [] := by
  intro h0
  rw [h0] at hst
  cases hst; rfl
 have htwo : Grp ⟨s, d, env, typ⟩ [⟨1, [], name, [], [], [], []⟩, ⟨1, [], name, [], [], [], []⟩] a := by
  refine ⟨k' + 3, met, ?_⟩
  show bnd (stepG ⟨s, d, env, typ⟩ (thr ⟨s, d, env, typ⟩ (k' + 2)) ⟨1, [], name, [], [], [], []⟩ ([], [])) (fun st => bnd (stepG ⟨s, d, env, typ⟩ (thr ⟨s, d, env, typ⟩ (k' + 1)) ⟨1, [], name, [], [], [], []⟩ st) (fun st => thr ⟨s, d, env, typ⟩ (k' + 1) [] st)) = _
  rw [step_mono (fun l st s h => thr_le _ (by omega) h) h1]
  show bnd (stepG ⟨s, d, env, typ⟩ (thr ⟨s, d, env, typ⟩ (k' + 1)) ⟨1, [], name, [], [], [], []⟩ (a, met)) _ = _
  have : stepG ⟨s, d, env, typ⟩ (thr ⟨s, d, env, typ⟩ (k' + 1)) ⟨1, [], name, [], [], [], []⟩ (a, met) = some (a, met) := by
   show (bif met.contains name then some (a, met) else _) = _
   rw [List.contains_iff_mem.2 hmet]; rfl
  rw [this]; rfl
 have hb2 : bkSels [⟨1, [], name, [], [], [], []⟩, ⟨1, [], name, [], [], [], []⟩] = 2 * (name.length + 8) := by
  simp only [bkSels, bkSel_eq, bk1, bkStr, bkSl, sumL, List.length_nil]; omega
 have hbc := grp_ok htwo (by rw [hb2]; omega)
 cases hF : (gFrag d name).2
 ·have := hno hF
  subst this
  have z1 : ((List.length ([] : List GGroup) : Int) == 0) = true := rfl
  simp only [seinelaw25_CollectOnce_B, hb1, bnd_s, awake_ok, hn, hac, hbc, hf, hsame, cnd_t, hF, cnd_f, z1, cnd_same]
 ·simp only [seinelaw25_CollectOnce_B, hb1, bnd_s, awake_ok, hn, hac, hbc, hf, hsame, cnd_t, hF, cnd_same]
def belowL (l : List GSel) : List GSel := l.foldl (fun a x => a ++ x.sels) []
theorem belowL_bk : ∀ (l a : List GSel), bkSels (l.foldl (fun a x => a ++ x.sels) a) ≤ bkSels a + bkSels l
 | [], a => by simp [bkSels]
 | x :: l, a => by
  have := belowL_bk l (a ++ x.sels)
  have h2 := bkSel_sels x
  rw [List.foldl_cons]
  rw [bkSels_app] at this
  rw [bkS_cons]; omega
theorem bkSels_take (k : Nat) (l : List GSel) : bkSels (l.take k) ≤ bkSels l := by
 have := bkSels_app (l.take k) (l.drop k)
 rw [List.take_append_drop] at this
 omega
theorem below_fold {b : (List GSel) × Int → Option (((List GSel) × Int) ⊕ (List GSel))} (l : List GSel) (hl : bkSels l < 268435456)
  (hnil : ∀ a, b (a, (l.length : Int)) = some (.inr a)) (hcons : ∀ (k : Nat) (x : GSel) (a : List GSel), decide ((k : Int) < (l.length : Int)) = true → nthI l (k : Int) = some x → IntKind.wrap .i64 ((k : Int) + 1) = ((k + 1 : Nat) : Int) → tapp a x.sels = some (a ++ x.sels) → b (a, (k : Int)) = some (.inl (a ++ x.sels, ((k + 1 : Nat) : Int)))) : tloop b ([], 0) = some (belowL l) := by
 have hlen := bkSels_len l
 exact loop_fold (b := b) l (fun k a => (a, (k : Int))) (fun a x => a ++ x.sels) id (fun k a => bkSels a ≤ bkSels (l.take k)) (by show l.length < _; omega) (fun a _ => hnil a) (fun k x a hm hk h1 h2 h3 hi => by
  have e : l.take (k + 1) = l.take k ++ [x] := by
   rw [List.take_add_one]
   rw [nthI_nat] at h2
   rw [h2]; rfl
  have h4 := bkSel_sels x
  have h5 := bkSels_take (k + 1) l
  rw [e, bkSels_app, bkS_cons] at h5
  have h6 := bkSels_len a
  have h7 := bkSels_len x.sels
  refine ⟨hcons k x a h1 h2 h3 (tapp_ok (by rw [lim_val]; omega)), ?_⟩
  rw [e, bkSels_app, bkSels_app, bkS_cons]; omega) (s := ([], 0)) (a := []) rfl (by simp [bkSels])
theorem collect_Below_ok (l : List GSel) (hl : bkSels l < 268435456) : collect_Below l = some (belowL l) := by
 apply collect_Below_run
 unfold collect_Below_B
 rw [below_fold l hl (fun a => by simp [collect_Below_l1T]) (fun k x a h1 h2 h3 h4 => by simp only [collect_Below_l1T, h1, cnd_t, h2, bnd_s, h4, h3])]
 rfl
theorem seineref23_Below_ok (l : List GSel) (hl : bkSels l < 268435456) : seineref23_Below l = some (belowL l) := by
 apply seineref23_Below_run
 unfold seineref23_Below_B
 rw [below_fold l hl (fun a => by simp [seineref23_Below_l1T]) (fun k x a h1 h2 h3 h4 => by simp only [seineref23_Below_l1T, h1, cnd_t, h2, bnd_s, h4, h3])]
 rfl
theorem seineref23_Applies_ok (s : GSchema) (typ on0 : Str) (h : SOk s) : seineref23_Applies s typ on0 = some (gApplies s typ on0) := by
 apply seineref23_Applies_run
 unfold seineref23_Applies_B gApplies
 cases h1 : on0 == ([] : Str)
 ·cases h2 : on0 == typ
  ·have hl := possD_len s on0 h
   rw [gPoss_eq] at hl
   simp only [cnd, seineref9_Possible_ok s on0 h, gPoss_eq, bnd, seineref1_Has_ok (gPoss s on0) typ (show (gPoss s on0).length < _ by omega), Bool.false_or]
  ·rfl
 ·rfl
theorem seinelaw25_CollectBelow_ok (s : GSchema) (typ on0 : Str) (l : List GSel) (h : bkSels l + bkSchema s ≤ 100000000) : seinelaw25_CollectBelow s typ on0 l = some true := by
 apply seinelaw25_CollectBelow_run
 obtain ⟨b1, hb1⟩ := light_ex s ⟨[], []⟩ l ⟨by omega⟩ (by rw [bkDoc_eq]; simp only [bkSl, sumL]; omega) (by omega)
 have hb := belowL_bk l []
 have hbl : bkSels (belowL l) < 1073741824 := by
  have e : bkSels ([] : List GSel) = 0 := by simp [bkSels]
  unfold belowL; omega
 simp only [seinelaw25_CollectBelow_B, hb1, bnd_s, awake_ok, sels_keep l (by omega), collect_Below_ok l (by omega), seineref23_Below_ok l (by omega), sameSels_self _ hbl, cnd_t, gApplies_ok s typ on0 ⟨by omega⟩, seineref23_Applies_ok s typ on0 ⟨by omega⟩, beq_self_eq_true, cnd_same]
open Go.ChangeShapes Go.WideShapes Go.ChangeAt Go.RowKit
theorem mixed : Try.prog.follows .mixedOrders = true := by kernel_rfl
theorem names : (Try.prog.funcs.toList.all fun fn => !fn.body.isSome || !(fn.name == "runtime.NumGoroutine")) = true := by kernel_rfl
theorem laid : laidOutB Try.prog = true := by kernel_rfl
theorem pok : POk Try.prog := by
 refine ⟨mixed, fun f fn hf hb => ?_⟩
 have hm : fn ∈ Try.prog.funcs.toList := by
  have := Array.mem_of_getElem? hf
  simpa using this
 have := List.all_eq_true.1 names fn hm
 rw [hb] at this
 simpa using this
theorem blOk {H : Type} : BlOk (H := H) Rows.uptoBulk Rows.uptoBulkAll := by
 refine ⟨fun l => ?_, fun s => ?_, ?_, fun es sp => ?_, fun ps => ?_, fun d r => ?_⟩
 ·cases l <;> simp [Rows.uptoBulk]
 ·simp [Rows.uptoBulk]
 ·simp [Rows.uptoBulk]
 ·simp only [Rows.uptoBulk]; omega
 ·simp only [Rows.uptoBulk]; omega
 ·simp [Rows.uptoBulkAll]
theorem own : ownKnob Try.prog.godebug = none := by kernel_rfl
end Go.Proofs.Ytfbaogfcpldlnaa
