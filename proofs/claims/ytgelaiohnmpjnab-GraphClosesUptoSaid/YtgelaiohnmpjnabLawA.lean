/-
  GraphCloses: what is reached from what is reached is reached; all that is spread at once, and is there, is. Conditions: none beside the row's own (bulk at most 1048576).
-/
import Derived.Test.YtgelaiohnmpjnabGb
import Derived.Test.YtgelaiohnmpjnabEd
import Derived.KernelRfl
import Derived.Test.YtgelaiohnmpjnabGa
import Derived.Test.YtgelaiohnmpjnabRows
import Derived.WalkKit
import Derived.ProofKit
import Derived.OpenShut
import Derived.JoinedCond
set_option linter.unusedVariables false
set_option linter.unusedSimpArgs false
/-
  Sizes of values.
-/
set_option linter.unusedVariables false
set_option linter.unusedSimpArgs false
open Go Go.Ev
namespace Go.Proofs.Ytgelaiohnmpjnab

/-! sizes -/
mutual
def szV : GValue → Nat
  | ⟨_, _, s, l, m⟩ => 1 + s.length + szVs l + szMs m
def szVs : List GValue → Nat
  | [] => 0
  | x :: l => szV x + szVs l
def szM : GMember → Nat
  | ⟨n, v⟩ => n.length + szV v
def szMs : List GMember → Nat
  | [] => 0
  | x :: l => szM x + szMs l
end
theorem szV_eq (v : GValue) : szV v = 1 + v.s.length + szVs v.l + szMs v.m := by cases v; simp only [szV]
theorem szM_eq (x : GMember) : szM x = x.name.length + szV x.v := by cases x; simp only [szM]
theorem szVs_mem {x : GValue} : ∀ {l : List GValue}, x ∈ l → szV x ≤ szVs l
  | a :: l, h => by
    simp only [szVs]
    rcases List.mem_cons.1 h with rfl | h
    · omega
    · have := szVs_mem h; omega
theorem szMs_mem {x : GMember} : ∀ {l : List GMember}, x ∈ l → szM x ≤ szMs l
  | a :: l, h => by
    simp only [szMs]
    rcases List.mem_cons.1 h with rfl | h
    · omega
    · have := szMs_mem h; omega
theorem szVs_len : ∀ (l : List GValue), l.length ≤ szVs l
  | [] => by simp [szVs]
  | a :: l => by have := szVs_len l; have := szV_eq a; simp only [szVs, List.length_cons]; omega
theorem szMs_len : ∀ (l : List GMember), l.length ≤ szMs l
  | [] => by simp [szMs]
  | a :: l => by have := szMs_len l; have := szM_eq a; have := szV_eq a.v; simp only [szMs, List.length_cons]; omega
theorem szVs_app : ∀ (l m : List GValue), szVs (l ++ m) = szVs l + szVs m
  | [], m => by simp [szVs]
  | a :: l, m => by simp only [List.cons_append, szVs, szVs_app l m]; omega
theorem seinekeep_Size_ok' : ∀ (n : Nat), n < 4611686018427387904 → ∀ v : GValue, szV v ≤ n → seinekeep_Size v = some (szV v : Int) := by
  intro n
  induction n with
  | zero => intro _ v h; have := szV_eq v; omega
  | succ n ih =>
    intro hn v h
    have hv := szV_eq v
    have hl := szVs_len v.l
    have hm := szMs_len v.m
    apply seinekeep_Size_run
    unfold seinekeep_Size_B
    have k1 := tloop_list (b := seinekeep_Size_l1T v) v.l (fun k (a : Nat) => ((a : Int), (k : Int))) (fun r a => ((a + szVs r : Nat) : Int)) (fun k a => a + szVs (v.l.drop k) ≤ 1 + v.s.length + szVs v.l)
      (by
        intro a _
        simp [seinekeep_Size_l1T, szVs])
      (by
        intro k x r a hk hx hd hI
        have hxm : x ∈ v.l := List.mem_of_getElem? hx
        have h1 := szVs_mem hxm
        have h2 := ih (by omega) x (by omega)
        rw [hd] at hI
        simp only [szVs] at hI
        have e1 : (decide ((k : Int) < (List.length v.l : Int))) = true := by simp; omega
        have e3 : IntKind.wrap .i64 ((k : Int) + 1) = ((k + 1 : Nat) : Int) := wadd (by omega)
        have e4 : IntKind.wrap .i64 ((a : Int) + (szV x : Int)) = ((a + szV x : Nat) : Int) := by rw [wi (by omega)]; omega
        refine .inr ⟨a + szV x, ?_, ?_, ?_⟩
        · simp only [seinekeep_Size_l1T, e1, cnd_t, nthI_nat, hx, bnd_s, h2, e3, e4]
        · have : v.l.drop (k + 1) = r := by rw [← List.tail_drop, hd]; rfl
          rw [this]; omega
        · simp only [szVs, Nat.add_assoc])
    have k2 := tloop_list (b := seinekeep_Size_l2T v) v.m (fun k (a : Nat) => ((a : Int), (k : Int))) (fun r a => ((a + szMs r : Nat) : Int)) (fun k a => a + szMs (v.m.drop k) ≤ 1 + v.s.length + szVs v.l + szMs v.m)
      (by
        intro a _
        simp [seinekeep_Size_l2T, szMs])
      (by
        intro k x r a hk hx hd hI
        have hxm : x ∈ v.m := List.mem_of_getElem? hx
        have h1 := szMs_mem hxm
        have h1' := szM_eq x
        have h2 := ih (by omega) x.v (by omega)
        rw [hd] at hI
        simp only [szMs] at hI
        have e1 : (decide ((k : Int) < (List.length v.m : Int))) = true := by simp; omega
        have e3 : IntKind.wrap .i64 ((k : Int) + 1) = ((k + 1 : Nat) : Int) := wadd (by omega)
        have e5 : IntKind.wrap .i64 ((a : Int) + (x.name.length : Int)) = ((a + x.name.length : Nat) : Int) := by rw [wi (by omega)]; omega
        have e4 : IntKind.wrap .i64 (((a + x.name.length : Nat) : Int) + (szV x.v : Int)) = ((a + szM x : Nat) : Int) := by rw [wi (by omega)]; omega
        refine .inr ⟨a + szM x, ?_, ?_, ?_⟩
        · simp only [seinekeep_Size_l2T, e1, cnd_t, nthI_nat, hx, bnd_s, h2, e3, e4, e5]
        · have : v.m.drop (k + 1) = r := by rw [← List.tail_drop, hd]; rfl
          rw [this]; omega
        · simp only [szMs, Nat.add_assoc])
    have e0 : IntKind.wrap .i64 (1 + (v.s.length : Int)) = ((1 + v.s.length : Nat) : Int) := by rw [wi (by omega)]; omega
    rw [e0, show (0 : Int) = ((0 : Nat) : Int) from rfl, k1 0 (1 + v.s.length) (by omega) (by simp)]
    simp only [List.drop_zero, bnd_s]
    rw [k2 0 (1 + v.s.length + szVs v.l) (by omega) (by simp)]
    simp only [List.drop_zero, bnd_s, hv]
theorem seinekeep_Size_ok (v : GValue) (h : szV v < 4611686018427387904) : seinekeep_Size v = some (szV v : Int) := seinekeep_Size_ok' _ h v (Nat.le_refl _)
mutual
theorem szV_bk : ∀ v : GValue, szV v ≤ bkValue v
  | ⟨_, _, s, l, m⟩ => by
    have h1 := szVs_bk l
    have h2 := szMs_bk m
    simp only [szV, bkValue, bk1, bkStr]; omega
theorem szVs_bk : ∀ l : List GValue, szVs l ≤ bkValues l
  | [] => by simp [szVs]
  | x :: l => by have := szV_bk x; have := szVs_bk l; simp only [szVs, bkValues]; omega
theorem szM_bk : ∀ x : GMember, szM x ≤ bkMember x
  | ⟨n, v⟩ => by have := szV_bk v; simp only [szM, bkMember, bkStr]; omega
theorem szMs_bk : ∀ l : List GMember, szMs l ≤ bkMembers l
  | [] => by simp [szMs]
  | x :: l => by have := szM_bk x; have := szMs_bk l; simp only [szMs, bkMembers]; omega
end
end Go.Proofs.Ytgelaiohnmpjnab

/-
  A value is the same as itself.
-/
set_option linter.unusedVariables false
set_option linter.unusedSimpArgs false
open Go Go.Ev
namespace Go.Proofs.Ytgelaiohnmpjnab

/-! a value is the same as itself -/
end Go.Proofs.Ytgelaiohnmpjnab

/-
  Lists of texts and of numbers.
-/
set_option linter.unusedVariables false
set_option linter.unusedSimpArgs false
open Go Go.Ev
namespace Go.Proofs.Ytgelaiohnmpjnab

/-! lists of texts, of numbers -/
theorem slices_Index_string_ok (l : List Str) (v : Str) (hl : Sm l) : ∃ i, slices_Index_string_string l v = some i ∧ decide (i ≥ 0) = l.contains v := by
  have key := loop_list (b := slices_Index_string_string_l1T l v) l (fun k (_ : Nat) => (k : Int)) (fun r k => match r.findIdx? (fun y => v == y) with | some j => Sum.inr ((k + j : Nat) : Int) | none => Sum.inl ()) (fun k a => a = k) hl
    (by intro a _; simp [slices_Index_string_string_l1T])
    (by
      intro k x r a hm hk hd h1 h2 h3 hI
      subst hI
      simp only [slices_Index_string_string_l1T, h1, cnd_t, h2, bnd_s, h3, List.findIdx?_cons]
      cases hv : v == x
      · refine .inr ⟨a + 1, rfl, rfl, ?_⟩
        simp only [Bool.false_eq_true, if_false]
        cases r.findIdx? (fun y => v == y) with
        | none => rfl
        | some j => simp only [Option.map_some]; congr 2; omega
      · left; simp) (s := 0) (a := 0) rfl rfl
  have hrun : ∀ i, slices_Index_string_string_B l v = some i → slices_Index_string_string l v = some i := fun i h => slices_Index_string_string_run h
  unfold slices_Index_string_string_B at hrun
  rw [key] at hrun
  simp only [bnd_s, Nat.zero_add] at hrun
  have hc : l.contains v = (l.findIdx? (fun y => v == y)).isSome := by
    rw [List.findIdx?_isSome, List.contains_eq_any_beq]
  cases hf : l.findIdx? (fun y => v == y) with
  | none => rw [hf] at hrun hc; exact ⟨-1, hrun _ rfl, by rw [hc]; rfl⟩
  | some j => rw [hf] at hrun hc; exact ⟨(j : Int), hrun _ rfl, by rw [hc]; simp⟩
theorem slices_Contains_string_ok (l : List Str) (v : Str) (hl : Sm l) : slices_Contains_string_string l v = some (l.contains v) := by
  obtain ⟨i, h1, h2⟩ := slices_Index_string_ok l v hl
  apply slices_Contains_string_string_run
  simp only [slices_Contains_string_string_B, h1, bnd_s, h2]
theorem seineref1_Has_ok (l : List Str) (v : Str) (hl : Sm l) : seineref1_Has l v = some (l.contains v) := by
  apply seineref1_Has_run
  unfold seineref1_Has_B
  rw [loop_idx (b := seineref1_Has_l1T l v) l (fun r => bif r.contains v then .inr () else .inl ()) hl (by simp [seineref1_Has_l1T]) (by
    intro k x r hm h1 h2 h3
    simp only [seineref1_Has_l1T, h1, cnd_t, h2, bnd_s, h3, List.contains_cons]
    rw [BEq.comm (a := x) (b := v)]
    cases v == x
    · right; simp
    · left; simp)]
  cases l.contains v <;> rfl

theorem find_some {α : Type} (l : List α) (p : α → Bool) {β : Type} (g : α → β) : l.findSome? (fun x => if p x then some (g x) else none) = (l.find? p).map g := by
  induction l with
  | nil => rfl
  | cons a l ih =>
    rw [List.findSome?_cons, List.find?_cons]
    cases p a with
    | true => rfl
    | false => exact ih
def addD (l : List Str) (n : Str) : List Str := bif l.contains n then l else l ++ [n]
theorem addD_len (l : List Str) (n : Str) : (addD l n).length ≤ l.length + 1 := by
  unfold addD; cases l.contains n <;> simp
theorem addD_nodup {l : List Str} {n : Str} (h : l.Nodup) : (addD l n).Nodup := by
  unfold addD
  cases hc : l.contains n
  · simp only [cond_false]
    have hm : n ∉ l := by simpa using hc
    exact List.nodup_append.2 ⟨h, by simp, fun a ha b hb => by simp at hb; subst hb; exact fun e => hm (e ▸ ha)⟩
  · exact h
theorem addD_mem {l : List Str} {n x : Str} (h : x ∈ addD l n) : x ∈ l ∨ x = n := by
  unfold addD at h
  cases hc : l.contains n
  · rw [hc] at h; simpa using h
  · rw [hc] at h; exact .inl h
end Go.Proofs.Ytgelaiohnmpjnab

/-
  Layer 13, graph: which fragments are spread, which are reached.
-/
set_option linter.unusedVariables false
set_option linter.unusedSimpArgs false
open Go Go.Ev
namespace Go.Proofs.Ytgelaiohnmpjnab

mutual
def namesS1 : GSel → List Str
  | ⟨k, _, n, _, _, _, l⟩ => (bif k == 1 then [n] else []) ++ namesS l
def namesS : List GSel → List Str
  | [] => []
  | x :: l => namesS1 x ++ namesS l
end
theorem namesS1_eq (x : GSel) : namesS1 x = (bif x.kind == 1 then [x.name] else []) ++ namesS x.sels := by cases x; simp only [namesS1]
theorem namesS_append : ∀ l m : List GSel, namesS (l ++ m) = namesS l ++ namesS m
  | [], m => rfl
  | x :: l, m => by simp only [List.cons_append, namesS, namesS_append l m, List.append_assoc]
mutual
theorem namesS1_bk : ∀ x : GSel, (namesS1 x).length ≤ bkSel x
  | ⟨k, a, n, ar, di, o, l⟩ => by
    have h := namesS_bk l
    simp only [namesS1, bkSel, List.length_append]
    cases k == 1 <;> simp only [cond_true, cond_false, List.length_singleton, List.length_nil, bk1] <;> omega
theorem namesS_bk : ∀ l : List GSel, (namesS l).length ≤ bkSels l
  | [] => by simp [namesS]
  | x :: l => by have := namesS1_bk x; have := namesS_bk l; simp only [namesS, bkSels, List.length_append]; omega
end
theorem bkSels_mem {x : GSel} {l : List GSel} (h : x ∈ l) : bkSel x ≤ bkSels l := by rw [bkSels_eq]; exact sumL_mem bkSel h
theorem bkSel_sels (x : GSel) : bkSels x.sels + 1 ≤ bkSel x := by rw [bkSel_eq, bkSels_eq]; simp only [bkSl]; omega
theorem bkSel_pos (x : GSel) : 1 ≤ bkSel x := by rw [bkSel_eq]; omega
theorem bkSels_len (l : List GSel) : l.length ≤ bkSels l := by rw [bkSels_eq]; exact sumL_len bkSel bkSel_pos l
theorem foldA_len : ∀ (ns l : List Str), (ns.foldl addD l).length ≤ l.length + ns.length
  | [], l => by simp
  | n :: ns, l => by have := foldA_len ns (addD l n); have := addD_len l n; rw [List.foldl_cons, List.length_cons]; omega
theorem foldA_nodup : ∀ (ns l : List Str), l.Nodup → (ns.foldl addD l).Nodup
  | [], l, h => h
  | n :: ns, l, h => foldA_nodup ns _ (addD_nodup h)
theorem addD_sub (l : List Str) (n x : Str) : x ∈ addD l n ↔ x ∈ l ∨ x = n := by
  constructor
  · exact addD_mem
  · unfold addD
    cases hc : l.contains n
    · intro h; simpa using h
    · rintro (h | h)
      · exact h
      · subst h; simpa using hc
theorem foldA_mem : ∀ (ns l : List Str) (x : Str), x ∈ ns.foldl addD l ↔ x ∈ l ∨ x ∈ ns
  | [], l, x => by simp
  | n :: ns, l, x => by rw [List.foldl_cons, foldA_mem ns, addD_sub, List.mem_cons]; exact or_assoc
theorem addD_prefix (l : List Str) (n : Str) : ∃ t, addD l n = l ++ t := by
  unfold addD; cases l.contains n
  · exact ⟨[n], rfl⟩
  · exact ⟨[], by simp⟩
theorem foldA_prefix : ∀ (ns l : List Str), ∃ t, ns.foldl addD l = l ++ t
  | [], l => ⟨[], by simp⟩
  | n :: ns, l => by
    obtain ⟨t, ht⟩ := addD_prefix l n
    obtain ⟨u, hu⟩ := foldA_prefix ns (addD l n)
    exact ⟨t ++ u, by rw [List.foldl_cons, hu, ht, List.append_assoc]⟩
theorem graph_spreads_ok' : ∀ (n : Nat), ∀ (sels : List GSel) (l : List Str), bkSels sels ≤ n → l.length + bkSels sels < 1073741824 → graph_spreads l sels = some ((namesS sels).foldl addD l) := by
  intro n
  induction n with
  | zero =>
    intro sels l h hl
    have := bkSels_len sels
    have hs : sels = [] := List.length_eq_zero_iff.1 (by omega)
    subst hs
    apply graph_spreads_run
    unfold graph_spreads_B
    rw [tloop_exit (r := l) (by simp [graph_spreads_l1T])]
    rfl
  | succ n ih =>
    intro sels l h hl
    apply graph_spreads_run
    unfold graph_spreads_B
    have hlen := bkSels_len sels
    have key := loop_list (b := graph_spreads_l1T sels) sels (fun k (a : List Str) => (a, (k : Int))) (fun r a => (namesS r).foldl addD a) (fun k a => a.length + bkSels (sels.drop k) < 1073741824) (by show sels.length < _; omega)
      (by intro a _; simp [graph_spreads_l1T, namesS])
      (by
        intro k x r a hm hk hd h1 h2 h3 hI
        rw [hd] at hI
        simp only [bkSels] at hI
        have hdr : sels.drop (k + 1) = r := by rw [← List.tail_drop, hd]; rfl
        have hx := bkSels_mem hm
        have hx2 := bkSel_sels x
        have hrec : ∀ a' : List Str, a'.length ≤ a.length + 1 → graph_spreads a' x.sels = some ((namesS x.sels).foldl addD a') := fun a' ha' => ih x.sels a' (by omega) (by omega)
        have hb := namesS1_bk x
        refine .inr ⟨(namesS1 x).foldl addD a, ?_, ?_, ?_⟩
        · rw [namesS1_eq]
          simp only [graph_spreads_l1T, h1, cnd_t, h2, bnd_s, h3, slices_Contains_string_ok a x.name (by show a.length < _; omega), hrec a (by omega)]
          cases x.kind == 1
          · rfl
          · have ht : tapp a [x.name] = some (a ++ [x.name]) := tapp_ok (by simp [lim_val]; omega)
            simp only [cnd_t, cond_true, List.cons_append, List.nil_append, List.foldl_cons, addD, ht, bnd_s, hrec (a ++ [x.name]) (by simp)]
            cases a.contains x.name <;> rfl
        · rw [hdr]
          have := foldA_len (namesS1 x) a
          omega
        · simp only [namesS, List.foldl_append]) (s := (l, 0)) (a := l) rfl (by simpa using hl)
    rw [key]; rfl
theorem graph_spreads_ok (sels : List GSel) (l : List Str) (h : l.length + bkSels sels < 1073741824) : graph_spreads l sels = some ((namesS sels).foldl addD l) := graph_spreads_ok' _ sels l (Nat.le_refl _) h

abbrev zFrag : GFrag := ⟨[], [], [], []⟩
theorem IndexFrag_ok (l : List GFrag) (a b name : Str) (d : GDoc) (hl : Sm l) :
    ∃ i, slices_IndexFunc_Frag l a b name d = some i ∧ (match l.find? (fun f => f.name == name) with | some f => decide (i < 0) = false ∧ nthI l i = some f | none => decide (i < 0) = true) := by
  have hc : ∀ f, graph_Frag_1 f a b name d = some (f.name == name) := fun f => graph_Frag_1_run rfl
  have key := loop_list (b := slices_IndexFunc_Frag_l1T l a b name d) l (fun k (_ : Nat) => (k : Int)) (fun r k => match r.findIdx? (fun f => f.name == name) with | some j => Sum.inr ((k + j : Nat) : Int) | none => Sum.inl ()) (fun k a => a = k) hl
    (by intro a _; simp [slices_IndexFunc_Frag_l1T])
    (by
      intro k x r a' hm hk hd h1 h2 h3 hI
      subst hI
      simp only [slices_IndexFunc_Frag_l1T, h1, cnd_t, h2, bnd_s, h3, hc, List.findIdx?_cons]
      cases hv : x.name == name
      · refine .inr ⟨a' + 1, rfl, rfl, ?_⟩
        simp only [Bool.false_eq_true, if_false]
        cases r.findIdx? (fun f => f.name == name) with
        | none => rfl
        | some j => simp only [Option.map_some]; congr 2; omega
      · left; simp) (s := 0) (a := 0) rfl rfl
  have hrun : ∀ i, slices_IndexFunc_Frag_B l a b name d = some i → slices_IndexFunc_Frag l a b name d = some i := fun i h => slices_IndexFunc_Frag_run h
  unfold slices_IndexFunc_Frag_B at hrun
  rw [key] at hrun
  simp only [bnd_s, Nat.zero_add] at hrun
  cases hf : l.findIdx? (fun f => f.name == name) with
  | none =>
    rw [hf] at hrun
    refine ⟨-1, hrun _ rfl, ?_⟩
    rw [List.findIdx?_eq_none_iff] at hf
    have : l.find? (fun f => f.name == name) = none := List.find?_eq_none.2 fun x hx => by simp [hf x hx]
    rw [this]; rfl
  | some j =>
    rw [hf] at hrun
    refine ⟨(j : Int), hrun _ rfl, ?_⟩
    obtain ⟨hj, hp, hq⟩ := List.findIdx?_eq_some_iff_getElem.1 hf
    have : l.find? (fun f => f.name == name) = some l[j] := by
      rw [List.find?_eq_some_iff_getElem]
      exact ⟨hp, j, hj, rfl, fun k hk => by simpa using hq k hk⟩
    rw [this]
    exact ⟨by simp, by rw [nthI_nat, List.getElem?_eq_getElem hj]⟩
def fragD (d : GDoc) (n : Str) : GFrag × Bool := match d.frags.find? (fun f => f.name == n) with | some f => (f, true) | none => (zFrag, false)
theorem graph_Frag_ok (d : GDoc) (n : Str) (hl : Sm d.frags) : graph_Frag d n = some (fragD d n) := by
  apply graph_Frag_run
  obtain ⟨i, h1, h2⟩ := IndexFrag_ok d.frags [] [] n d hl
  simp only [graph_Frag_B, h1, bnd_s, fragD]
  cases hf : d.frags.find? (fun f => f.name == n) with
  | none => rw [hf] at h2; simp only at h2; rw [h2]; rfl
  | some f => rw [hf] at h2; obtain ⟨h3, h4⟩ := h2; rw [h3, h4]; rfl
theorem fragD_mem {d : GDoc} {n : Str} (h : (fragD d n).2 = true) : (fragD d n).1 ∈ d.frags ∧ (fragD d n).1.name = n := by
  revert h
  unfold fragD
  cases hf : d.frags.find? (fun f => f.name == n) with
  | none => intro h; simp at h
  | some f => intro _; exact ⟨List.mem_of_find?_eq_some hf, by simpa using List.find?_some hf⟩
theorem fragD_of {d : GDoc} {f : GFrag} (h : f ∈ d.frags) : (fragD d f.name).2 = true := by
  unfold fragD
  cases hf : d.frags.find? (fun g => g.name == f.name) with
  | none => have := List.find?_eq_none.1 hf f h; simp at this
  | some g => rfl

/-! what is reached -/
def ClosedP (d : GDoc) (S : Str → Prop) : Prop := ∀ n, S n → (fragD d n).2 = true → ∀ m ∈ namesS (fragD d n).1.sels, S m
def allN (d : GDoc) (sels : List GSel) : List Str := namesS sels ++ d.frags.flatMap fun f => namesS f.sels
theorem flat_len : ∀ l : List GFrag, (l.flatMap fun f => namesS f.sels).length ≤ sumL bkFrag l
  | [] => by simp [sumL]
  | f :: l => by
    have h1 := flat_len l
    have h2 := namesS_bk f.sels
    have h3 : bkSels f.sels ≤ bkFrag f := by rw [bkFrag_eq, bkSels_eq]; simp only [bkSl]; omega
    simp only [List.flatMap_cons, List.length_append, sumL]; omega
theorem bkDoc_frags (d : GDoc) : sumL bkFrag d.frags + 1 ≤ bkDoc d := by rw [bkDoc_eq]; simp only [bkSl]; omega
theorem bkFrag_pos (f : GFrag) : 1 ≤ bkFrag f := by rw [bkFrag_eq]; omega
theorem frags_len (d : GDoc) : d.frags.length + 1 ≤ bkDoc d := by
  have := bkDoc_frags d; have := sumL_len bkFrag bkFrag_pos d.frags; omega
theorem graph_reached_ok (d : GDoc) (sels : List GSel) (hd : bkDoc d + bkSels sels < 500000000) :
    ∃ l, graph_reached d sels = some l ∧ l.length < 1073741824 ∧ (∀ n ∈ namesS sels, n ∈ l) ∧ ClosedP d (· ∈ l) ∧ ∀ S : Str → Prop, (∀ n ∈ namesS sels, S n) → ClosedP d S → ∀ n ∈ l, S n := by
  have hU : (allN d sels).length ≤ bkDoc d + bkSels sels := by
    have h1 := namesS_bk sels
    have h2 := flat_len d.frags
    have h3 := bkDoc_frags d
    simp only [allN, List.length_append]; omega
  have hf := frags_len d
  have hsm : Sm d.frags := by show d.frags.length < _; omega
  have base : graph_spreads [] sels = some ((namesS sels).foldl addD []) := graph_spreads_ok sels [] (by simp only [List.length_nil]; omega)
  have hsub : ∀ (l : List Str), l.Nodup → (∀ x ∈ l, x ∈ allN d sels) → l.length ≤ bkDoc d + bkSels sels := fun l h1 h2 => Nat.le_trans (nodup_len l _ h1 h2) hU
  obtain ⟨l, hl, hq⟩ := tloop_inv (b := graph_reached_l1T d sels)
    (I := fun s => ∃ i : Nat, s.1 = (i : Int) ∧ i ≤ s.2.length ∧ s.2.Nodup ∧ (∀ x ∈ s.2, x ∈ allN d sels) ∧ (∀ n ∈ namesS sels, n ∈ s.2) ∧
      (∀ (j : Nat) (n : Str), j < i → s.2[j]? = some n → (fragD d n).2 = true → ∀ m ∈ namesS (fragD d n).1.sels, m ∈ s.2) ∧ (∀ S : Str → Prop, (∀ n ∈ namesS sels, S n) → ClosedP d S → ∀ n ∈ s.2, S n))
    (m := fun s => bkDoc d + bkSels sels + 1 - s.1.toNat)
    (Q := fun l => l.length < 1073741824 ∧ (∀ n ∈ namesS sels, n ∈ l) ∧ ClosedP d (· ∈ l) ∧ ∀ S : Str → Prop, (∀ n ∈ namesS sels, S n) → ClosedP d S → ∀ n ∈ l, S n)
    (by
      rintro ⟨i', l⟩ ⟨i, hi, hle, hnd, hall, hin, hcl, hmin⟩
      simp only at hi hle hnd hall hin hcl hmin
      subst hi
      have hlen := hsub l hnd hall
      by_cases hil : l.length ≤ i
      · left
        refine ⟨l, ?_, by omega, hin, ?_, hmin⟩
        · have e1 : decide ((i : Int) ≥ (List.length l : Int)) = true := by simp; omega
          simp only [graph_reached_l1T, e1, cnd_t]
        · intro n hn hfr m hm
          obtain ⟨j, hj⟩ := List.mem_iff_getElem?.1 hn
          have hjl := (List.getElem?_eq_some_iff.1 hj).1
          exact hcl j n (by omega) hj hfr m hm
      · right
        have e1 : decide ((i : Int) ≥ (List.length l : Int)) = false := by simp; omega
        have hx := List.getElem?_eq_getElem (show i < l.length by omega)
        have e3 : IntKind.wrap .i64 ((i : Int) + 1) = ((i + 1 : Nat) : Int) := wadd (by omega)
        cases hfr : (fragD d l[i]).2
        · refine ⟨(((i + 1 : Nat) : Int), l), ?_, ⟨i + 1, rfl, by simp only; omega, hnd, hall, hin, ?_, hmin⟩, ?_⟩
          · simp only [graph_reached_l1T, e1, cnd_f, nthI_nat, hx, bnd_s, graph_Frag_ok d _ hsm, hfr, Bool.not_false, cnd_t, e3]
          · intro j n hj hjn hfn
            by_cases hji : j = i
            · subst hji
              rw [hx] at hjn; cases hjn
              rw [hfr] at hfn; simp at hfn
            · exact hcl j n (by omega) hjn hfn
          · simp only [Int.toNat_natCast]; omega
        · obtain ⟨hfm, _⟩ := fragD_mem hfr
          have hfb := sumL_mem bkFrag hfm
          have hfs : bkSels (fragD d l[i]).1.sels ≤ bkFrag (fragD d l[i]).1 := by rw [bkFrag_eq, bkSels_eq]; simp only [bkSl]; omega
          have hdf := bkDoc_frags d
          have hsp := graph_spreads_ok (fragD d l[i]).1.sels l (by omega)
          obtain ⟨t, ht⟩ := foldA_prefix (namesS (fragD d l[i]).1.sels) l
          refine ⟨(((i + 1 : Nat) : Int), (namesS (fragD d l[i]).1.sels).foldl addD l), ?_, ⟨i + 1, rfl, by simp only; rw [ht]; simp only [List.length_append]; omega, foldA_nodup _ _ hnd, ?_, ?_, ?_, ?_⟩, ?_⟩
          · simp only [graph_reached_l1T, e1, cnd_f, nthI_nat, hx, bnd_s, graph_Frag_ok d _ hsm, hfr, Bool.not_true, hsp, e3]
          · intro x hxm
            rcases (foldA_mem _ _ _).1 hxm with h | h
            · exact hall x h
            · exact List.mem_append_right _ (List.mem_flatMap.2 ⟨_, hfm, h⟩)
          · intro n hn; exact (foldA_mem _ _ _).2 (.inl (hin n hn))
          · intro j n hj hjn hfn m hm
            simp only at hjn ⊢
            rw [ht] at hjn
            rw [foldA_mem]
            by_cases hji : j = i
            · subst hji
              rw [List.getElem?_append_left (by omega), hx] at hjn; cases hjn
              exact .inr hm
            · rw [List.getElem?_append_left (by omega)] at hjn
              exact .inl (hcl j n (by omega) hjn hfn m hm)
          · intro S h1 h2 n hn
            rcases (foldA_mem _ _ _).1 hn with h | h
            · exact hmin S h1 h2 n h
            · exact h2 l[i] (hmin S h1 h2 _ (List.getElem_mem _)) hfr n h
          · simp only [Int.toNat_natCast]; omega)
    (0, (namesS sels).foldl addD [])
    ⟨0, rfl, Nat.zero_le _, foldA_nodup _ _ List.nodup_nil, (fun x hx => by
      rcases (foldA_mem _ _ _).1 hx with h | h
      · simp at h
      · exact List.mem_append_left _ h), (fun n hn => (foldA_mem _ _ _).2 (.inr hn)), (fun j n hj => by omega), (fun S h1 _ n hn => by
      rcases (foldA_mem _ _ _).1 hn with h | h
      · simp at h
      · exact h1 n h)⟩
  exact ⟨l, graph_reached_run (by simp only [graph_reached_B, base, bnd_s, hl]), hq⟩
theorem graph_Reach_ok (d : GDoc) (sels : List GSel) (hd : bkDoc d + bkSels sels < 500000000) :
    ∃ (r l : List Str), graph_Reach d sels = some r ∧ r.Nodup ∧ r.length < 1073741824 ∧ (∀ n, n ∈ r ↔ n ∈ l ∧ (fragD d n).2 = true) ∧ (∀ n ∈ namesS sels, n ∈ l) ∧ ClosedP d (· ∈ l) ∧ ∀ S : Str → Prop, (∀ n ∈ namesS sels, S n) → ClosedP d S → ∀ n ∈ l, S n := by
  obtain ⟨l, h1, h2, h3, h4, h5⟩ := graph_reached_ok d sels hd
  have hf := frags_len d
  have key := loop_fold (b := graph_Reach_l1T d l) d.frags (fun k (a : List Str) => (a, (k : Int))) (fun a f => bif l.contains f.name then addD a f.name else a) id (fun k a => a.length ≤ k) (by show d.frags.length < _; omega)
    (by intro a _; simp [graph_Reach_l1T])
    (by
      intro k x a hm hk e1 e2 e3 hI
      have ht : tapp a [x.name] = some (a ++ [x.name]) := tapp_ok (by simp [lim_val]; omega)
      simp only [graph_Reach_l1T, e1, cnd_t, e2, bnd_s, e3, slices_Contains_string_ok l x.name (by show l.length < _; omega), slices_Contains_string_ok a x.name (by show a.length < _; omega), ht]
      cases l.contains x.name
      · exact ⟨rfl, by simp only [cond_false]; omega⟩
      · simp only [cnd_t, cond_true, addD]
        cases a.contains x.name
        · exact ⟨rfl, by simp; omega⟩
        · exact ⟨rfl, by simp; omega⟩) (s := ([], 0)) (a := []) rfl (by simp)
  have fold : ∀ (fs : List GFrag) (a : List Str), (a.Nodup → (fs.foldl (fun a f => bif l.contains f.name then addD a f.name else a) a).Nodup) ∧ (fs.foldl (fun a f => bif l.contains f.name then addD a f.name else a) a).length ≤ a.length + fs.length ∧
      ∀ n, n ∈ fs.foldl (fun a f => bif l.contains f.name then addD a f.name else a) a ↔ n ∈ a ∨ ∃ f ∈ fs, n ∈ l ∧ f.name = n := by
    intro fs
    induction fs with
    | nil => intro a; simp
    | cons f fs ih =>
      intro a
      rw [List.foldl_cons]
      obtain ⟨i1, i2, i3⟩ := ih (bif l.contains f.name then addD a f.name else a)
      refine ⟨fun hn => i1 ?_, ?_, fun n => ?_⟩
      · cases l.contains f.name
        · exact hn
        · exact addD_nodup hn
      · have := addD_len a f.name
        cases hc : l.contains f.name <;> rw [hc] at i2 <;> simp only [cond_true, cond_false, List.length_cons] at i2 ⊢ <;> omega
      · rw [i3]
        cases hc : l.contains f.name
        · have hn : f.name ∉ l := by simpa using hc
          simp only [cond_false, List.mem_cons, exists_eq_or_imp]
          constructor
          · rintro (h | h)
            · exact .inl h
            · exact .inr (.inr h)
          · rintro (h | ⟨h, e⟩ | h)
            · exact .inl h
            · exact absurd (e ▸ h) hn
            · exact .inr h
        · have hn : f.name ∈ l := by simpa using hc
          simp only [cond_true, addD_sub, List.mem_cons, exists_eq_or_imp]
          constructor
          · rintro ((h | h) | h)
            · exact .inl h
            · exact .inr (.inl ⟨h ▸ hn, h.symm⟩)
            · exact .inr (.inr h)
          · rintro (h | ⟨h, e⟩ | h)
            · exact .inl (.inl h)
            · exact .inl (.inr e.symm)
            · exact .inr h
  obtain ⟨f1, f2, f3⟩ := fold d.frags []
  refine ⟨_, l, graph_Reach_run (by simp only [graph_Reach_B, h1, bnd_s, key]; rfl), f1 List.nodup_nil, ?_, ?_, h3, h4, h5⟩
  · simp only [List.length_nil] at f2; omega
  · intro n
    rw [f3]
    constructor
    · rintro (h | ⟨f, hf, hn, e⟩)
      · simp at h
      · exact ⟨hn, e ▸ fragD_of hf⟩
    · rintro ⟨hn, hfr⟩
      obtain ⟨hm, hname⟩ := fragD_mem hfr
      exact .inr ⟨_, hm, hn, hname⟩
end Go.Proofs.Ytgelaiohnmpjnab

/-
  GraphCloses, GraphJoins, of the typed functions.
-/
set_option linter.unusedVariables false
set_option linter.unusedSimpArgs false
open Go Go.Ev
namespace Go.Proofs.Ytgelaiohnmpjnab

theorem seinelaw13_awake_ok : seinelaw13_awake = some true := seinelaw13_awake_run 100 (by kernel_rfl)
/-! how light: it is told -/
theorem bkDir_pos (d : GDir) : 1 ≤ bkDir d := by rw [bkDir_eq]; omega
theorem bkVarDef_pos (d : GVarDef) : 1 ≤ bkVarDef d := by rw [bkVarDef_eq]; omega
theorem bkOp_pos (d : GOp) : 1 ≤ bkOp d := by rw [bkOp_eq]; omega
theorem szArgs (m : List GMember) (h : bkSl bkMember m < 1073741824) : szV ⟨0, 0, [], [], m⟩ < 4611686018427387904 := by
  have h4 := szMs_bk m
  rw [bkMembers_eq] at h4
  simp only [szV, szVs, List.length_nil]
  have h5 : bkSl bkMember m = sumL bkMember m + 1 := rfl
  omega
theorem lightDirs_ex (l : List GDir) (h : bkSl bkDir l < 1073741824) : ∃ n, seinelaw7_lightDirs l = some n := by
  have hl := sl_len bkDir_pos l
  obtain ⟨r, hr⟩ := loop_ex (b := seinelaw7_lightDirs_l1T l) l (fun k (a : Int) => (a, (k : Int))) (by show l.length < _; omega) (fun a => ⟨a, by simp [seinelaw7_lightDirs_l1T]⟩) (by
    intro k x a hx h1 h2 h3
    have hb := sl_mem (f := bkDir) hx
    rw [bkDir_eq] at hb
    right; simp only [seinelaw7_lightDirs_l1T, h1, cnd_t, h2, bnd_s, h3, seinekeep_Size_ok _ (szArgs x.args (by omega))]; exact ⟨_, rfl⟩) (s := (0, 0)) (a := 0) rfl
  exact ⟨r, seinelaw7_lightDirs_run (by simp only [seinelaw7_lightDirs_B, hr, bnd_s])⟩
theorem lightSels_ex' : ∀ (n : Nat) (l : List GSel), bkSels l ≤ n → n < 1073741824 → ∃ m, seinelaw7_lightSels l = some m := by
  intro n
  induction n with
  | zero =>
    intro l h _
    have := bkSels_len l
    have hs : l = [] := List.length_eq_zero_iff.1 (by omega)
    subst hs
    exact ⟨0, seinelaw7_lightSels_run (by unfold seinelaw7_lightSels_B; rw [tloop_exit (r := 0) (by simp [seinelaw7_lightSels_l1T])]; rfl)⟩
  | succ n ih =>
    intro l h hn
    have hl := bkSels_len l
    obtain ⟨r, hr⟩ := loop_ex (b := seinelaw7_lightSels_l1T l) l (fun k (a : Int) => (a, (k : Int))) (by show l.length < _; omega) (fun a => ⟨a, by simp [seinelaw7_lightSels_l1T]⟩) (by
      intro k x a hx h1 h2 h3
      have hb := bkSels_mem hx
      have hb2 := bkSel_sels x
      have hb3 := hb
      rw [bkSel_eq] at hb3
      obtain ⟨m1, g1⟩ := lightDirs_ex x.dirs (by omega)
      obtain ⟨m2, g2⟩ := ih x.sels (by omega) (by omega)
      right; simp only [seinelaw7_lightSels_l1T, h1, cnd_t, h2, bnd_s, h3, seinekeep_Size_ok _ (szArgs x.args (by omega)), g1, g2]; exact ⟨_, rfl⟩) (s := (0, 0)) (a := 0) rfl
    exact ⟨r, seinelaw7_lightSels_run (by simp only [seinelaw7_lightSels_B, hr, bnd_s])⟩
theorem lightSels_ex (l : List GSel) (h : bkSels l < 1073741824) : ∃ m, seinelaw7_lightSels l = some m := lightSels_ex' _ l (Nat.le_refl _) h
theorem seinelaw7_Light_ex (d : GDoc) (h : bkDoc d < 1073741824) : ∃ b, seinelaw7_Light d = some b := by
  rw [bkDoc_eq] at h
  have ho := sl_len bkOp_pos d.ops
  have hf := sl_len bkFrag_pos d.frags
  obtain ⟨r, hr⟩ := loop_ex (b := seinelaw7_Light_l2T d) d.ops (fun k (a : Int) => (a, (k : Int))) (by show d.ops.length < _; omega) (fun a => ⟨a, by simp [seinelaw7_Light_l2T]⟩) (by
    intro k o a hx h1 h2 h3
    have hb := sl_mem (f := bkOp) hx
    rw [bkOp_eq] at hb
    obtain ⟨m1, g1⟩ := lightDirs_ex o.dirs (by omega)
    obtain ⟨m2, g2⟩ := lightSels_ex o.sels (by rw [bkSels_eq]; have e : bkSl bkSel o.sels = sumL bkSel o.sels + 1 := rfl; omega)
    have hv := sl_len bkVarDef_pos o.vars
    have hin : ∀ n0 : Int, ∃ n, tloop (seinelaw7_Light_l1T d (k : Int)) (n0, 0) = some n := by
      intro n0
      refine loop_ex (b := seinelaw7_Light_l1T d (k : Int)) o.vars (fun k (a : Int) => (a, (k : Int))) (by show o.vars.length < _; omega) (fun a => ⟨a, by simp [seinelaw7_Light_l1T, h2]⟩) (by
        intro j v a hv h4 h5 h6
        have hvb := sl_mem (f := bkVarDef) hv
        rw [bkVarDef_eq] at hvb
        have hs := szV_bk v.default
        right; simp only [seinelaw7_Light_l1T, h2, bnd_s, h4, cnd_t, h5, h6, seinekeep_Size_ok v.default (by omega)]; exact ⟨_, rfl⟩) (a := n0) rfl
    right
    simp only [seinelaw7_Light_l2T, h1, cnd_t, h2, bnd_s, h3, g1, g2]
    obtain ⟨n, hn⟩ := hin (IntKind.wrap .i64 ((IntKind.wrap .i64 ((IntKind.wrap .i64 ((IntKind.wrap .i64 (a + 1)) + m1)) + m2)) + (List.length o.name : Int)))
    rw [hn]
    exact ⟨n, rfl⟩) (s := (0, 0)) (a := 0) rfl
  obtain ⟨q, hq⟩ := loop_ex (b := seinelaw7_Light_l3T d) d.frags (fun k (a : Int) => (a, (k : Int))) (by show d.frags.length < _; omega) (fun a => ⟨a, by simp [seinelaw7_Light_l3T]⟩) (by
    intro k f a hx h1 h2 h3
    have hb := sl_mem (f := bkFrag) hx
    rw [bkFrag_eq] at hb
    obtain ⟨m1, g1⟩ := lightDirs_ex f.dirs (by omega)
    obtain ⟨m2, g2⟩ := lightSels_ex f.sels (by rw [bkSels_eq]; have e : bkSl bkSel f.sels = sumL bkSel f.sels + 1 := rfl; omega)
    right; simp only [seinelaw7_Light_l3T, h1, cnd_t, h2, bnd_s, h3, g1, g2]; exact ⟨_, rfl⟩) (s := (r, 0)) (a := r) rfl
  exact ⟨decide (q ≤ 3200), seinelaw7_Light_run (by simp only [seinelaw7_Light_B, hr, bnd_s, hq])⟩
theorem bkDoc_one (l : List GSel) : bkDoc ⟨[], [⟨[], [], [], l⟩]⟩ = bkSels l + 8 := by
  rw [bkDoc_eq, bkSels_eq]; simp only [bkSl, sumL, bkFrag_eq, bkStr, List.length_nil]; omega
theorem bkDoc_two (l m : List GSel) : bkDoc ⟨[], [⟨[], [], [], l⟩, ⟨[], [], [], m⟩]⟩ = bkSels l + bkSels m + 13 := by
  rw [bkDoc_eq, bkSels_eq, bkSels_eq]; simp only [bkSl, sumL, bkFrag_eq, bkStr, List.length_nil]; omega
theorem graph_Spreads_ok (l : List GSel) (h : bkSels l < 1000000000) : graph_Spreads l = some ((namesS l).foldl addD []) :=
  graph_Spreads_run (by simp only [graph_Spreads_B, graph_spreads_ok l [] (by simp only [List.length_nil]; omega), bnd_s])
theorem seinelaw13_GraphCloses_ok (d : GDoc) (l : List GSel) (h : bkDoc d + bkSels l < 200000000) : seinelaw13_GraphCloses d l = some true := by
  apply seinelaw13_GraphCloses_run
  obtain ⟨b1, hb1⟩ := seinelaw7_Light_ex d (by omega)
  obtain ⟨b2, hb2⟩ := seinelaw7_Light_ex ⟨[], [⟨[], [], [], l⟩]⟩ (by rw [bkDoc_one]; omega)
  obtain ⟨r, ns, hr, hnd, hrl, hmem, hin, hcl, hmin⟩ := graph_Reach_ok d l (by omega)
  have hf := frags_len d
  have hsm : Sm d.frags := by show d.frags.length < _; omega
  have hnb := namesS_bk l
  have hsl := foldA_len (namesS l) []
  simp only [List.length_nil] at hsl
  have L1 : tloop (seinelaw13_GraphCloses_l1T d r ((namesS l).foldl addD [])) 0 = some (.inl ()) := loop_all (b := seinelaw13_GraphCloses_l1T d r ((namesS l).foldl addD [])) ((namesS l).foldl addD []) (.inl ()) (by show ((namesS l).foldl addD []).length < _; omega) (by simp [seinelaw13_GraphCloses_l1T]) (by
    intro k x hx h1 h2 h3
    have hxn : x ∈ ns := by
      rcases (foldA_mem _ _ _).1 hx with h | h
      · simp at h
      · exact hin x h
    have heq : (r.contains x == (fragD d x).2) = true := by
      rw [beq_iff_eq, Bool.eq_iff_iff, List.contains_iff_mem, hmem]
      exact ⟨fun h => h.2, fun h => ⟨hxn, h⟩⟩
    simp only [seinelaw13_GraphCloses_l1T, h1, cnd_t, h2, bnd_s, h3, graph_Frag_ok d x hsm, seineref1_Has_ok r x (by show r.length < _; omega), heq, Bool.not_true, cnd_f])
  have L3 : tloop (seinelaw13_GraphCloses_l3T d r) 0 = some (.inl ()) := loop_all (b := seinelaw13_GraphCloses_l3T d r) r (.inl ()) (by show r.length < _; omega) (by simp [seinelaw13_GraphCloses_l3T]) (by
    intro k x hx h1 h2 h3
    obtain ⟨hxn, hxf⟩ := (hmem x).1 hx
    obtain ⟨hfm, _⟩ := fragD_mem hxf
    have hfb := sumL_mem bkFrag hfm
    have hdf := bkDoc_frags d
    have hfs : bkSels (fragD d x).1.sels ≤ bkFrag (fragD d x).1 := by rw [bkFrag_eq, bkSels_eq]; simp only [bkSl]; omega
    obtain ⟨r2, ns2, hr2, _, hrl2, hmem2, _, _, hmin2⟩ := graph_Reach_ok d (fragD d x).1.sels (by omega)
    have hsub : ∀ n ∈ ns2, n ∈ ns := hmin2 (· ∈ ns) (fun n hn => hcl x hxn hxf n hn) hcl
    have L2 : tloop (seinelaw13_GraphCloses_l2T r r2) 0 = some (.inl ()) := loop_all (b := seinelaw13_GraphCloses_l2T r r2) r2 (.inl ()) (by show r2.length < _; omega) (by simp [seinelaw13_GraphCloses_l2T]) (by
      intro j y hy g1 g2 g3
      obtain ⟨hyn, hyf⟩ := (hmem2 y).1 hy
      have : r.contains y = true := by rw [List.contains_iff_mem, hmem]; exact ⟨hsub y hyn, hyf⟩
      simp only [seinelaw13_GraphCloses_l2T, g1, cnd_t, g2, bnd_s, g3, seineref1_Has_ok r y (by show r.length < _; omega), this, Bool.not_true, cnd_f])
    simp only [seinelaw13_GraphCloses_l3T, h1, cnd_t, h2, bnd_s, h3, graph_Frag_ok d x hsm, hxf, Bool.not_true, cnd_f, hr2, L2, elim_inl])
  simp only [seinelaw13_GraphCloses_B, hb1, hb2, bnd_s, seinelaw13_awake_ok, hr, graph_Spreads_ok l (by omega), L1, elim_inl, L3, cnd_same]
theorem seinelaw13_GraphJoins_ok (d : GDoc) (l m : List GSel) (h : bkDoc d + (bkSels l + bkSels m) < 400000000) : seinelaw13_GraphJoins d l m = some true := by
  apply seinelaw13_GraphJoins_run
  obtain ⟨b1, hb1⟩ := seinelaw7_Light_ex d (by omega)
  obtain ⟨b2, hb2⟩ := seinelaw7_Light_ex ⟨[], [⟨[], [], [], l⟩, ⟨[], [], [], m⟩]⟩ (by rw [bkDoc_two]; omega)
  have hlm : bkSels (l ++ m) = bkSels l + bkSels m := by rw [bkSels_eq, bkSels_eq, bkSels_eq, sumL_append]
  obtain ⟨r1, n1, e1, nd1, rl1, mem1, in1, cl1, min1⟩ := graph_Reach_ok d l (by omega)
  obtain ⟨r2, n2, e2, nd2, rl2, mem2, in2, cl2, min2⟩ := graph_Reach_ok d m (by omega)
  obtain ⟨r3, n3, e3, nd3, rl3, mem3, in3, cl3, min3⟩ := graph_Reach_ok d (l ++ m) (by omega)
  have hl := bkSels_len l
  have hm := bkSels_len m
  have t1 : tapp ([] : List GSel) l = some l := by rw [tapp_ok (by simp [lim_val]; omega)]; rfl
  have t2 : tapp l m = some (l ++ m) := tapp_ok (by rw [lim_val]; omega)
  have s1 : ∀ n ∈ n1, n ∈ n3 := min1 (· ∈ n3) (fun n hn => in3 n (by rw [namesS_append]; exact List.mem_append_left _ hn)) cl3
  have s2 : ∀ n ∈ n2, n ∈ n3 := min2 (· ∈ n3) (fun n hn => in3 n (by rw [namesS_append]; exact List.mem_append_right _ hn)) cl3
  have s3 : ∀ n ∈ n3, n ∈ n1 ∨ n ∈ n2 := min3 (fun n => n ∈ n1 ∨ n ∈ n2) (fun n hn => by
    rw [namesS_append] at hn
    rcases List.mem_append.1 hn with h | h
    · exact .inl (in1 n h)
    · exact .inr (in2 n h)) (fun n hn hf k hk => by
    rcases hn with h | h
    · exact .inl (cl1 n h hf k hk)
    · exact .inr (cl2 n h hf k hk))
  have hU : ∀ n, n ∈ r3 ↔ n ∈ r1 ∨ n ∈ r2 := by
    intro n
    rw [mem1, mem2, mem3]
    constructor
    · rintro ⟨h1, h2⟩
      rcases s3 n h1 with h | h
      · exact .inl ⟨h, h2⟩
      · exact .inr ⟨h, h2⟩
    · rintro (⟨h1, h2⟩ | ⟨h1, h2⟩)
      · exact ⟨s1 n h1, h2⟩
      · exact ⟨s2 n h1, h2⟩
  have L1 : tloop (seinelaw13_GraphJoins_l1T r1 r2 r3) 0 = some (.inl ()) := loop_all (b := seinelaw13_GraphJoins_l1T r1 r2 r3) r3 (.inl ()) (by show r3.length < _; omega) (by simp [seinelaw13_GraphJoins_l1T]) (by
    intro k x hx h1 h2 h3
    simp only [seinelaw13_GraphJoins_l1T, h1, cnd_t, h2, bnd_s, h3, seineref1_Has_ok r1 x (by show r1.length < _; omega), seineref1_Has_ok r2 x (by show r2.length < _; omega)]
    rcases (hU x).1 hx with h | h
    · rw [List.contains_iff_mem.2 h]; rfl
    · rw [List.contains_iff_mem.2 h]; cases r1.contains x <;> rfl)
  have L2 : tloop (seinelaw13_GraphJoins_l2T r1 r2) (0, 0) = some (((r2.filter fun y => !r1.contains y).length : Nat) : Int) := by
    have := loop_list (b := seinelaw13_GraphJoins_l2T r1 r2) r2 (fun k (a : Nat) => ((a : Int), (k : Int))) (fun r a => ((a + (r.filter fun y => !r1.contains y).length : Nat) : Int)) (fun k a => a ≤ k) (by show r2.length < _; omega)
      (by intro a _; simp [seinelaw13_GraphJoins_l2T])
      (by
        intro k x r a hm hk hd h1 h2 h3 hI
        have e4 : IntKind.wrap .i64 ((a : Int) + 1) = ((a + 1 : Nat) : Int) := wadd (by omega)
        simp only [seinelaw13_GraphJoins_l2T, h1, cnd_t, h2, bnd_s, h3, seineref1_Has_ok r1 x (by show r1.length < _; omega), e4, List.filter_cons]
        cases r1.contains x
        · exact .inr ⟨a + 1, rfl, by omega, by simp; omega⟩
        · exact .inr ⟨a, rfl, by omega, by simp⟩) (s := (0, 0)) (a := 0) rfl (by omega)
    rw [this]; simp
  have hcount : r3.length = r1.length + (r2.filter fun y => !r1.contains y).length := by
    have hnd : (r1 ++ r2.filter fun y => !r1.contains y).Nodup := by
      refine List.nodup_append.2 ⟨nd1, nd2.filter _, fun a ha b hb => ?_⟩
      rw [List.mem_filter] at hb
      intro e
      subst e
      have := hb.2
      simp [ha] at this
    have h1 := nodup_len r3 (r1 ++ r2.filter fun y => !r1.contains y) nd3 (fun x hx => by
      by_cases h : x ∈ r1
      · exact List.mem_append_left _ h
      · rcases (hU x).1 hx with h' | h'
        · exact absurd h' h
        · exact List.mem_append_right _ (List.mem_filter.2 ⟨h', by simp [h]⟩))
    have h2 := nodup_len (r1 ++ r2.filter fun y => !r1.contains y) r3 hnd (fun x hx => by
      rcases List.mem_append.1 hx with h | h
      · exact (hU x).2 (.inl h)
      · exact (hU x).2 (.inr (List.mem_filter.1 h).1))
    rw [List.length_append] at h1 h2
    omega
  have hw : IntKind.wrap .i64 ((r1.length : Int) + (((r2.filter fun y => !r1.contains y).length : Nat) : Int)) = (r3.length : Int) := by
    rw [wi (by omega), hcount]; omega
  simp only [seinelaw13_GraphJoins_B, hb1, hb2, bnd_s, seinelaw13_awake_ok, e1, e2, t1, t2, e3, L1, elim_inl, L2, hw, beq_self_eq_true, cnd_t, cnd_same]
end Go.Proofs.Ytgelaiohnmpjnab

/-
  What is asked of the program as a whole.
-/
set_option linter.unusedVariables false
open Go Go.Ev
open Go.ChangeShapes Go.WideShapes Go.ChangeAt Go.RowKit
namespace Go.Proofs.Ytgelaiohnmpjnab
theorem mixed : Try.prog.follows .mixedOrders = true := by kernel_rfl
theorem names : (Try.prog.funcs.toList.all fun fn => !fn.body.isSome || !(fn.name == "runtime.NumGoroutine")) = true := by kernel_rfl
theorem laid : laidOutB Try.prog = true := by kernel_rfl
theorem pok : POk Try.prog := by
  refine ⟨mixed, fun f fn hf hb => ?_⟩
  have hm : fn ∈ Try.prog.funcs.toList := by
    have := Array.mem_of_getElem? hf
    simpa using this
  have := List.all_eq_true.1 names fn hm
  rw [hb] at this
  simpa using this
theorem xok : ExtOk Try.prog XT := fun f g h => by simp [XT] at h
theorem blOk {H : Type} : BlOk (H := H) Rows.uptoBulk Rows.uptoBulkAll := by
  refine ⟨fun l => ?_, fun s => ?_, ?_, fun es sp => ?_, fun ps => ?_, fun d r => ?_⟩
  · cases l <;> simp [Rows.uptoBulk]
  · simp [Rows.uptoBulk]
  · simp [Rows.uptoBulk]
  · simp only [Rows.uptoBulk]; omega
  · simp only [Rows.uptoBulk]; omega
  · simp [Rows.uptoBulkAll]
theorem own : ownKnob Try.prog.godebug = none := by kernel_rfl
end Go.Proofs.Ytgelaiohnmpjnab

/-
  GraphCloses: what is reached from what is reached is reached; all that is spread at once, and is there, is. Conditions: none beside the row's own (bulk at most 1048576).
-/
set_option linter.unusedVariables false
open Go Go.Ev
open Go.ChangeShapes Go.WideShapes Go.ChangeAt Go.RowKit
namespace Go.Proofs.Ytgelaiohnmpjnab
namespace graphCloses
def fs : Ty := (.fcons (.ext 8) (.fcons (.sl (.ext 5)) .fnil))
theorem lawF : ∀ x : fs.den RS, good RS fs x → bulkL RS fs x ≤ 1048576 → OL Try.prog MT XT 4 (encL RS fs x) [] = some (.bool true, []) := by
  rintro ⟨x0, x1, _⟩ g b
  have b' : bkDoc x0 + ((bkSl bkSel) x1 + (0)) ≤ 1048576 := b
  obtain ⟨g0, g1, _⟩ := g
  have g0' : gdDoc x0 := g0
  have g1' : (gdSl gdSel) x1 := g1
  have e : encL RS fs (x0, x1, ()) = [encDoc x0, .slice (List.map encSel x1) [] false] := rfl
  rw [e]
  change O 4 _ _ = _
  have h := seinelaw13_GraphCloses_spec (seinelaw13_GraphCloses_ok x0 x1 (by have e1 := bkSels_eq x1; have e : bkSl bkSel x1 = sumL bkSel x1 + 1 := rfl; omega))
  simpa only [tys, seinelaw13_GraphClosesE] using h
set_option maxRecDepth 100000 in
theorem contract (H : Type) (enc : TypeId × Value → H) (W : World) (base : Nat) (args : Array Value) (ds gs : List (DataW H)) (before : List MemPlace)
    (hval : ∀ (j : Nat) t v, Try.f4.params[j]? = some t → args[j]? = some v → Value.okWide Try.prog W .any base t v)
    (hW : DataW.Whole enc Try.prog Try.f4.params.toList Rows.graphClosesSpec.vars false W args.toList ds gs before) (hk : Rows.uptoSmall H (ds ++ gs) = true) :
    Calls Try.prog 4 args W fun e W' => ∃ v, e = .returned v ∧ Rows.graphClosesSpec.post enc Try.prog Try.f4 false true false false W args v W' := by
  have hg : gs = [] := by
    obtain ⟨p, q, hA, hV, _⟩ := hW
    exact (trodVars_none hV).1
  have hb : Rows.uptoBulkAll ds ≤ 1048576 := by
    have := of_decide_eq_true hk
    simpa [hg] using this
  have hlen : ds.length = 2 := by
    obtain ⟨p, q, hA0, hV, _⟩ := hW
    have hA : DataW.TrodAll enc Try.prog W 0 (fun _ => true) true Try.f4.params.toList args.toList ds p := hA0
    rw [Try.params4] at hA
    obtain ⟨v0, vs0, d0, ds0, p0, q0, h0, rfl, rfl, ht0, r0⟩ := trodAll_cons hA
    obtain ⟨v1, vs1, d1, ds1, p1, q1, h1, rfl, rfl, ht1, r1⟩ := trodAll_cons r0
    obtain ⟨rfl, rfl, rfl⟩ := trodAll_nil r1
    rfl
  refine contract_true pok xok laid blOk Try.func4 rfl (n := 9) (ρ := RS) (τ := TS) (fs := fs) (tb := 4) (by kernel_rfl) (by rw [show Try.f4.resultTypes = #[4] from rfl]) Try.underlying4 rfl (rok enc W blOk) ?_ hval hW hb lawF
  subst hg
  match ds, hlen with
  | [d0, d1], _ => exact ⟨rfl, rfl, rfl⟩
set_option maxRecDepth 100000 in
theorem lifted (os : Os) (started : os.Started) (H : Type) (enc : TypeId × Value → H) (F : Stop.Interp) :
    ReturnsInHanded {} Try.checked os 4 .any ((Rows.OpenSpec.upto Rows.graphClosesSpec).pre6 enc Try.prog Try.f4 Rows.graphClosesUptoRow.domain false) (((Rows.OpenSpec.upto Rows.graphClosesSpec).at F).post enc Try.prog Try.f4 false true false false) := by
  refine returnsInHanded_of_cond (C := Try.checked) (s := Rows.OpenSpec.upto Rows.graphClosesSpec) (k := Rows.uptoSmall) rfl own started (by kernel_rfl) Try.func4
    (OpenSpec.witness (enc := enc) (C := Try.checked) (s := Rows.OpenSpec.upto Rows.graphClosesSpec) (k := Rows.uptoSmall) rfl false ⟨#[], #[.agg #[.slice none 0 0, .slice none 0 0], .slice none 0 0], []⟩ 8 (by kernel_rfl) (by kernel_rfl) (by kernel_rfl)
      (x := ([.agg [.nil, .nil], .nil], [], [])) (by kernel_rfl) rfl (by kernel_rfl)) ?_
  intro W base args ds gs before hval hW _ hk _
  exact contract H enc W base args ds gs before hval hW hk
theorem over : Rows.graphClosesUptoRow.holds Try.pinned (Rows.OpenSpec.upto Rows.graphClosesSpec) :=
  OpenClaim.holds_of_cond 4 Try.f4 rfl rfl rfl rfl rfl rfl rfl ⟨rfl, rfl, rfl, rfl, rfl⟩ rfl rfl rfl rfl rfl (by kernel_rfl) Try.func4 (by kernel_rfl)
    (of_decide_eq_true (by kernel_rfl)) (by unfold Func.isWrapper; first | (rw [if_pos (by decide +kernel)]; kernel_rfl) | (rw [if_neg (by decide +kernel)]; exact ⟨rfl, rfl⟩))
    (fun os started H enc _ F => lifted os started H enc F)
theorem proved : Rows.GraphClosesUptoSaid :=
  over
end graphCloses
end Go.Proofs.Ytgelaiohnmpjnab
