/-
  DefsSays: of any schema, and any name: its definition, what it may stand for, what is possible, are the page's; the schema stays as it was. Conditions: none beside the row's own (bulk at most 1048576).
-/
import Derived.Test.YtigiafabnidggaaGc
import Derived.Test.YtigiafabnidggaaEd
import Derived.Test.YtigiafabnidggaaGa
import Derived.Test.YtigiafabnidggaaRows
import Derived.WalkKit
import Derived.ProofKit
import Derived.OpenShut
import Derived.JoinedCond
set_option linter.unusedVariables false
set_option linter.unusedSimpArgs false
/-
  Sizes of values.
-/
set_option linter.unusedVariables false
set_option linter.unusedSimpArgs false
open Go Go.Ev
namespace Go.Proofs.Ytigiafabnidggaa

/-! sizes -/
mutual
def szV : GValue → Nat
  | ⟨_, _, s, l, m⟩ => 1 + s.length + szVs l + szMs m
def szVs : List GValue → Nat
  | [] => 0
  | x :: l => szV x + szVs l
def szM : GMember → Nat
  | ⟨n, v⟩ => n.length + szV v
def szMs : List GMember → Nat
  | [] => 0
  | x :: l => szM x + szMs l
end
theorem szV_eq (v : GValue) : szV v = 1 + v.s.length + szVs v.l + szMs v.m := by cases v; simp only [szV]
theorem szM_eq (x : GMember) : szM x = x.name.length + szV x.v := by cases x; simp only [szM]
theorem szVs_mem {x : GValue} : ∀ {l : List GValue}, x ∈ l → szV x ≤ szVs l
  | a :: l, h => by
    simp only [szVs]
    rcases List.mem_cons.1 h with rfl | h
    · omega
    · have := szVs_mem h; omega
theorem szMs_mem {x : GMember} : ∀ {l : List GMember}, x ∈ l → szM x ≤ szMs l
  | a :: l, h => by
    simp only [szMs]
    rcases List.mem_cons.1 h with rfl | h
    · omega
    · have := szMs_mem h; omega
theorem szVs_len : ∀ (l : List GValue), l.length ≤ szVs l
  | [] => by simp [szVs]
  | a :: l => by have := szVs_len l; have := szV_eq a; simp only [szVs, List.length_cons]; omega
theorem szMs_len : ∀ (l : List GMember), l.length ≤ szMs l
  | [] => by simp [szMs]
  | a :: l => by have := szMs_len l; have := szM_eq a; have := szV_eq a.v; simp only [szMs, List.length_cons]; omega
theorem szVs_app : ∀ (l m : List GValue), szVs (l ++ m) = szVs l + szVs m
  | [], m => by simp [szVs]
  | a :: l, m => by simp only [List.cons_append, szVs, szVs_app l m]; omega
theorem seinekeep_Size_ok' : ∀ (n : Nat), n < 4611686018427387904 → ∀ v : GValue, szV v ≤ n → seinekeep_Size v = some (szV v : Int) := by
  intro n
  induction n with
  | zero => intro _ v h; have := szV_eq v; omega
  | succ n ih =>
    intro hn v h
    have hv := szV_eq v
    have hl := szVs_len v.l
    have hm := szMs_len v.m
    apply seinekeep_Size_run
    unfold seinekeep_Size_B
    have k1 := tloop_list (b := seinekeep_Size_l1T v) v.l (fun k (a : Nat) => ((a : Int), (k : Int))) (fun r a => ((a + szVs r : Nat) : Int)) (fun k a => a + szVs (v.l.drop k) ≤ 1 + v.s.length + szVs v.l)
      (by
        intro a _
        simp [seinekeep_Size_l1T, szVs])
      (by
        intro k x r a hk hx hd hI
        have hxm : x ∈ v.l := List.mem_of_getElem? hx
        have h1 := szVs_mem hxm
        have h2 := ih (by omega) x (by omega)
        rw [hd] at hI
        simp only [szVs] at hI
        have e1 : (decide ((k : Int) < (List.length v.l : Int))) = true := by simp; omega
        have e3 : IntKind.wrap .i64 ((k : Int) + 1) = ((k + 1 : Nat) : Int) := wadd (by omega)
        have e4 : IntKind.wrap .i64 ((a : Int) + (szV x : Int)) = ((a + szV x : Nat) : Int) := by rw [wi (by omega)]; omega
        refine .inr ⟨a + szV x, ?_, ?_, ?_⟩
        · simp only [seinekeep_Size_l1T, e1, cnd_t, nthI_nat, hx, bnd_s, h2, e3, e4]
        · have : v.l.drop (k + 1) = r := by rw [← List.tail_drop, hd]; rfl
          rw [this]; omega
        · simp only [szVs, Nat.add_assoc])
    have k2 := tloop_list (b := seinekeep_Size_l2T v) v.m (fun k (a : Nat) => ((a : Int), (k : Int))) (fun r a => ((a + szMs r : Nat) : Int)) (fun k a => a + szMs (v.m.drop k) ≤ 1 + v.s.length + szVs v.l + szMs v.m)
      (by
        intro a _
        simp [seinekeep_Size_l2T, szMs])
      (by
        intro k x r a hk hx hd hI
        have hxm : x ∈ v.m := List.mem_of_getElem? hx
        have h1 := szMs_mem hxm
        have h1' := szM_eq x
        have h2 := ih (by omega) x.v (by omega)
        rw [hd] at hI
        simp only [szMs] at hI
        have e1 : (decide ((k : Int) < (List.length v.m : Int))) = true := by simp; omega
        have e3 : IntKind.wrap .i64 ((k : Int) + 1) = ((k + 1 : Nat) : Int) := wadd (by omega)
        have e5 : IntKind.wrap .i64 ((a : Int) + (x.name.length : Int)) = ((a + x.name.length : Nat) : Int) := by rw [wi (by omega)]; omega
        have e4 : IntKind.wrap .i64 (((a + x.name.length : Nat) : Int) + (szV x.v : Int)) = ((a + szM x : Nat) : Int) := by rw [wi (by omega)]; omega
        refine .inr ⟨a + szM x, ?_, ?_, ?_⟩
        · simp only [seinekeep_Size_l2T, e1, cnd_t, nthI_nat, hx, bnd_s, h2, e3, e4, e5]
        · have : v.m.drop (k + 1) = r := by rw [← List.tail_drop, hd]; rfl
          rw [this]; omega
        · simp only [szMs, Nat.add_assoc])
    have e0 : IntKind.wrap .i64 (1 + (v.s.length : Int)) = ((1 + v.s.length : Nat) : Int) := by rw [wi (by omega)]; omega
    rw [e0, show (0 : Int) = ((0 : Nat) : Int) from rfl, k1 0 (1 + v.s.length) (by omega) (by simp)]
    simp only [List.drop_zero, bnd_s]
    rw [k2 0 (1 + v.s.length + szVs v.l) (by omega) (by simp)]
    simp only [List.drop_zero, bnd_s, hv]
theorem seinekeep_Size_ok (v : GValue) (h : szV v < 4611686018427387904) : seinekeep_Size v = some (szV v : Int) := seinekeep_Size_ok' _ h v (Nat.le_refl _)
mutual
theorem szV_bk : ∀ v : GValue, szV v ≤ bkValue v
  | ⟨_, _, s, l, m⟩ => by
    have h1 := szVs_bk l
    have h2 := szMs_bk m
    simp only [szV, bkValue, bk1, bkStr]; omega
theorem szVs_bk : ∀ l : List GValue, szVs l ≤ bkValues l
  | [] => by simp [szVs]
  | x :: l => by have := szV_bk x; have := szVs_bk l; simp only [szVs, bkValues]; omega
theorem szM_bk : ∀ x : GMember, szM x ≤ bkMember x
  | ⟨n, v⟩ => by have := szV_bk v; simp only [szM, bkMember, bkStr]; omega
theorem szMs_bk : ∀ l : List GMember, szMs l ≤ bkMembers l
  | [] => by simp [szMs]
  | x :: l => by have := szM_bk x; have := szMs_bk l; simp only [szMs, bkMembers]; omega
end
end Go.Proofs.Ytigiafabnidggaa

/-
  A value is the same as itself.
-/
set_option linter.unusedVariables false
set_option linter.unusedSimpArgs false
open Go Go.Ev
namespace Go.Proofs.Ytigiafabnidggaa

/-! a value is the same as itself -/
theorem members_of (m : List GMember) (hm : m.length < 1073741824) (h : ∀ x ∈ m, seineref1_Same x.v x.v = some true) : seineref1_Members m m = some true := by
  apply seineref1_Members_run
  unfold seineref1_Members_B
  have key := tloop_list (b := seineref1_Members_l1T m m) m (fun k (_ : Unit) => (k : Int)) (fun r _ => Sum.inl ()) (fun _ _ => True)
    (by intro a _; simp [seineref1_Members_l1T])
    (by
      intro k x r a hk hx hd _
      have e1 : (decide ((k : Int) < (List.length m : Int))) = true := by simp; omega
      have e3 : IntKind.wrap .i64 ((k : Int) + 1) = ((k + 1 : Nat) : Int) := wadd (by omega)
      refine .inr ⟨(), ?_, trivial, rfl⟩
      simp only [seineref1_Members_l1T, e1, cnd_t, nthI_nat, hx, bnd_s, beq_self_eq_true, Bool.not_true, cnd_f, h x (List.mem_of_getElem? hx), e3])
  have := key 0 () (by omega) trivial
  rw [show (0 : Int) = ((0 : Nat) : Int) from rfl, this]
  simp
theorem seineref1_Same_self' : ∀ (n : Nat), n < 1073741824 → ∀ v : GValue, szV v ≤ n → seineref1_Same v v = some true := by
  intro n
  induction n with
  | zero => intro _ v h; have := szV_eq v; omega
  | succ n ih =>
    intro hn v h
    have hv := szV_eq v
    have hl := szVs_len v.l
    have hm := szMs_len v.m
    apply seineref1_Same_run
    unfold seineref1_Same_B
    have key := tloop_list (b := seineref1_Same_l1T v v) v.l (fun k (_ : Unit) => (k : Int)) (fun r _ => Sum.inl ()) (fun _ _ => True)
      (by intro a _; simp [seineref1_Same_l1T])
      (by
        intro k x r a hk hx hd _
        have e1 : (decide ((k : Int) < (List.length v.l : Int))) = true := by simp; omega
        have e3 : IntKind.wrap .i64 ((k : Int) + 1) = ((k + 1 : Nat) : Int) := wadd (by omega)
        have hs := ih (by omega) x (by have := szVs_mem (List.mem_of_getElem? hx); omega)
        refine .inr ⟨(), ?_, trivial, rfl⟩
        simp only [seineref1_Same_l1T, e1, cnd_t, nthI_nat, hx, bnd_s, hs, Bool.not_true, cnd_f, e3])
    have hk := key 0 () (by omega) trivial
    have hmm := members_of v.m (by omega) fun x hx => ih (by omega) x.v (by have := szMs_mem hx; have := szM_eq x; omega)
    rw [show (0 : Int) = ((0 : Nat) : Int) from rfl, hk]
    simp [hmm]
theorem seineref1_Same_self (v : GValue) (h : szV v < 1073741824) : seineref1_Same v v = some true := seineref1_Same_self' _ h v (Nat.le_refl _)

end Go.Proofs.Ytigiafabnidggaa

/-
  Layer 9, defs: the typed functions of the program and of the reference as plain ones.
-/
set_option linter.unusedVariables false
set_option linter.unusedSimpArgs false
open Go Go.Ev
namespace Go.Proofs.Ytigiafabnidggaa

/-! lists of texts, of numbers -/
theorem slices_Index_string_ok (l : List Str) (v : Str) (hl : Sm l) : ∃ i, slices_Index_string_string l v = some i ∧ decide (i ≥ 0) = l.contains v := by
  have key := loop_list (b := slices_Index_string_string_l1T l v) l (fun k (_ : Nat) => (k : Int)) (fun r k => match r.findIdx? (fun y => v == y) with | some j => Sum.inr ((k + j : Nat) : Int) | none => Sum.inl ()) (fun k a => a = k) hl
    (by intro a _; simp [slices_Index_string_string_l1T])
    (by
      intro k x r a hm hk hd h1 h2 h3 hI
      subst hI
      simp only [slices_Index_string_string_l1T, h1, cnd_t, h2, bnd_s, h3, List.findIdx?_cons]
      cases hv : v == x
      · refine .inr ⟨a + 1, rfl, rfl, ?_⟩
        simp only [Bool.false_eq_true, if_false]
        cases r.findIdx? (fun y => v == y) with
        | none => rfl
        | some j => simp only [Option.map_some]; congr 2; omega
      · left; simp) (s := 0) (a := 0) rfl rfl
  have hrun : ∀ i, slices_Index_string_string_B l v = some i → slices_Index_string_string l v = some i := fun i h => slices_Index_string_string_run h
  unfold slices_Index_string_string_B at hrun
  rw [key] at hrun
  simp only [bnd_s, Nat.zero_add] at hrun
  have hc : l.contains v = (l.findIdx? (fun y => v == y)).isSome := by
    rw [List.findIdx?_isSome, List.contains_eq_any_beq]
  cases hf : l.findIdx? (fun y => v == y) with
  | none => rw [hf] at hrun hc; exact ⟨-1, hrun _ rfl, by rw [hc]; rfl⟩
  | some j => rw [hf] at hrun hc; exact ⟨(j : Int), hrun _ rfl, by rw [hc]; simp⟩
theorem slices_Contains_string_ok (l : List Str) (v : Str) (hl : Sm l) : slices_Contains_string_string l v = some (l.contains v) := by
  obtain ⟨i, h1, h2⟩ := slices_Index_string_ok l v hl
  apply slices_Contains_string_string_run
  simp only [slices_Contains_string_string_B, h1, bnd_s, h2]
theorem slices_Index_int_ok (l : List Int) (v : Int) (hl : Sm l) : ∃ i, slices_Index_int_int l v = some i ∧ decide (i ≥ 0) = l.contains v := by
  have key := loop_list (b := slices_Index_int_int_l1T l v) l (fun k (_ : Nat) => (k : Int)) (fun r k => match r.findIdx? (fun y => v == y) with | some j => Sum.inr ((k + j : Nat) : Int) | none => Sum.inl ()) (fun k a => a = k) hl
    (by intro a _; simp [slices_Index_int_int_l1T])
    (by
      intro k x r a hm hk hd h1 h2 h3 hI
      subst hI
      simp only [slices_Index_int_int_l1T, h1, cnd_t, h2, bnd_s, h3, List.findIdx?_cons]
      cases hv : v == x
      · refine .inr ⟨a + 1, rfl, rfl, ?_⟩
        simp only [Bool.false_eq_true, if_false]
        cases r.findIdx? (fun y => v == y) with
        | none => rfl
        | some j => simp only [Option.map_some]; congr 2; omega
      · left; simp) (s := 0) (a := 0) rfl rfl
  have hrun : ∀ i, slices_Index_int_int_B l v = some i → slices_Index_int_int l v = some i := fun i h => slices_Index_int_int_run h
  unfold slices_Index_int_int_B at hrun
  rw [key] at hrun
  simp only [bnd_s, Nat.zero_add] at hrun
  have hc : l.contains v = (l.findIdx? (fun y => v == y)).isSome := by
    rw [List.findIdx?_isSome, List.contains_eq_any_beq]
  cases hf : l.findIdx? (fun y => v == y) with
  | none => rw [hf] at hrun hc; exact ⟨-1, hrun _ rfl, by rw [hc]; rfl⟩
  | some j => rw [hf] at hrun hc; exact ⟨(j : Int), hrun _ rfl, by rw [hc]; simp⟩
theorem slices_Contains_int_ok (l : List Int) (v : Int) (hl : Sm l) : slices_Contains_int_int l v = some (l.contains v) := by
  obtain ⟨i, h1, h2⟩ := slices_Index_int_ok l v hl
  apply slices_Contains_int_int_run
  simp only [slices_Contains_int_int_B, h1, bnd_s, h2]
theorem seineref1_Has_ok (l : List Str) (v : Str) (hl : Sm l) : seineref1_Has l v = some (l.contains v) := by
  apply seineref1_Has_run
  unfold seineref1_Has_B
  rw [loop_idx (b := seineref1_Has_l1T l v) l (fun r => bif r.contains v then .inr () else .inl ()) hl (by simp [seineref1_Has_l1T]) (by
    intro k x r hm h1 h2 h3
    simp only [seineref1_Has_l1T, h1, cnd_t, h2, bnd_s, h3, List.contains_cons]
    rw [BEq.comm (a := x) (b := v)]
    cases v == x
    · right; simp
    · left; simp)]
  cases l.contains v <;> rfl

/-! definitions -/
abbrev zDef : GDef := ⟨0, [], [], [], [], []⟩
def scalarN (n : Str) : Bool := n == [73, 110, 116] || (n == [83, 116, 114, 105, 110, 103] || (n == [66, 111, 111, 108, 101, 97, 110] || n == [73, 68]))
theorem defs_scalar_ok (n : Str) : defs_scalar n = some (scalarN n) := by
  apply defs_scalar_run
  simp only [defs_scalar_B, scalarN]
  cases n == [73, 110, 116] <;> cases n == [83, 116, 114, 105, 110, 103] <;> cases n == [66, 111, 111, 108, 101, 97, 110] <;> rfl
theorem seineref9_scalar_ok (n : Str) : seineref9_scalar n = some (scalarN n) := by
  apply seineref9_scalar_run
  simp only [seineref9_scalar_B, scalarN]
  cases n == [73, 110, 116] <;> cases n == [83, 116, 114, 105, 110, 103] <;> cases n == [66, 111, 111, 108, 101, 97, 110] <;> rfl
def findD (s : GSchema) (n : Str) : GDef × Bool := bif scalarN n then (⟨0, n, [], [], [], []⟩, true) else match s.defs.find? (fun d => d.name == n) with | some d => (d, true) | none => (zDef, false)
theorem find_some {α : Type} (l : List α) (p : α → Bool) {β : Type} (g : α → β) : l.findSome? (fun x => if p x then some (g x) else none) = (l.find? p).map g := by
  induction l with
  | nil => rfl
  | cons a l ih =>
    rw [List.findSome?_cons, List.find?_cons]
    cases p a with
    | true => rfl
    | false => exact ih
theorem defs_Find_ok (s : GSchema) (n : Str) (hl : Sm s.defs) : defs_Find s n = some (findD s n) := by
  apply defs_Find_run
  unfold defs_Find_B findD
  rw [loop_find (b := defs_Find_l1T s n) s.defs (fun d => if (d.name == n) = true then some (.inr (d.kind, d.name, d.faces, d.fields, d.parts, d.params)) else none) (.inl ()) hl (by simp [defs_Find_l1T]) (by
    intro k x hm h1 h2 h3
    simp only [defs_Find_l1T, h1, cnd_t, h2, bnd_s, h3]
    cases x.name == n <;> rfl)]
  rw [find_some, defs_scalar_ok]
  cases scalarN n
  · simp only [bnd_s, cnd_f, cond_false]
    cases s.defs.find? (fun d => d.name == n) <;> rfl
  · rfl
theorem seineref9_Find_ok (s : GSchema) (n : Str) (hl : Sm s.defs) : seineref9_Find s n = some (findD s n) := by
  apply seineref9_Find_run
  unfold seineref9_Find_B findD
  rw [loop_find (b := seineref9_Find_l1T s n) s.defs (fun d => if (d.name == n) = true then some (.inr (d.kind, d.name, d.faces, d.fields, d.parts, d.params)) else none) (.inl ()) hl (by simp [seineref9_Find_l1T]) (by
    intro k x hm h1 h2 h3
    simp only [seineref9_Find_l1T, h1, cnd_t, h2, bnd_s, h3]
    cases x.name == n <;> rfl)]
  rw [find_some, seineref9_scalar_ok]
  cases scalarN n
  · simp only [bnd_s, cnd_f, cond_false]
    cases s.defs.find? (fun d => d.name == n) <;> rfl
  · rfl
def kindD (s : GSchema) (n : Str) (ks : List Int) : Bool := (findD s n).2 && ks.contains (findD s n).1.kind
theorem defs_Kind_ok (s : GSchema) (n : Str) (ks : List Int) (hl : Sm s.defs) (hk : Sm ks) : defs_Kind s n ks = some (kindD s n ks) := by
  apply defs_Kind_run
  simp only [defs_Kind_B, defs_Find_ok s n hl, bnd_s, slices_Contains_int_ok ks _ hk, kindD]
  cases (findD s n).2 <;> rfl
theorem seineref9_is_ok (s : GSchema) (n : Str) (a b c : Int) (hl : Sm s.defs) : seineref9_is s n a b c = some (kindD s n [a, b, c]) := by
  apply seineref9_is_run
  simp only [seineref9_is_B, seineref9_Find_ok s n hl, bnd_s, kindD]
  have : [a, b, c].contains (findD s n).1.kind = ((findD s n).1.kind == a || ((findD s n).1.kind == b || (findD s n).1.kind == c)) := by
    simp only [List.contains_cons, List.contains_nil, Bool.or_false]
  rw [this]
  cases (findD s n).2 <;> cases (findD s n).1.kind == a <;> cases (findD s n).1.kind == b <;> rfl
theorem kindD_two (s : GSchema) (n : Str) (a b : Int) : kindD s n [a, b, b] = kindD s n [a, b] := by
  simp only [kindD, List.contains_cons, List.contains_nil, Bool.or_false, Bool.or_self]
theorem kindD_one (s : GSchema) (n : Str) (a : Int) : kindD s n [a, a, a] = kindD s n [a] := by
  simp only [kindD, List.contains_cons, List.contains_nil, Bool.or_false, Bool.or_self]
theorem defs_Leaf_ok (s : GSchema) (n : Str) (hl : Sm s.defs) : defs_Leaf s n = some (kindD s n [0, 4]) :=
  defs_Leaf_run (by simp [defs_Leaf_B, defs_Kind_ok s n [0, 4] hl (by decide)])
theorem defs_Composite_ok (s : GSchema) (n : Str) (hl : Sm s.defs) : defs_Composite s n = some (kindD s n [1, 2, 3]) :=
  defs_Composite_run (by simp [defs_Composite_B, defs_Kind_ok s n [1, 2, 3] hl (by decide)])
theorem defs_Entry_ok (s : GSchema) (n : Str) (hl : Sm s.defs) : defs_Entry s n = some (kindD s n [0, 4, 5]) :=
  defs_Entry_run (by simp [defs_Entry_B, defs_Kind_ok s n [0, 4, 5] hl (by decide)])
theorem seineref9_Leaf_ok (s : GSchema) (n : Str) (hl : Sm s.defs) : seineref9_Leaf s n = some (kindD s n [0, 4]) :=
  seineref9_Leaf_run (by simp [seineref9_Leaf_B, seineref9_is_ok s n _ _ _ hl, kindD_two])
theorem seineref9_Composite_ok (s : GSchema) (n : Str) (hl : Sm s.defs) : seineref9_Composite s n = some (kindD s n [1, 2, 3]) :=
  seineref9_Composite_run (by simp [seineref9_Composite_B, seineref9_is_ok s n _ _ _ hl])
theorem seineref9_Entry_ok (s : GSchema) (n : Str) (hl : Sm s.defs) : seineref9_Entry s n = some (kindD s n [0, 4, 5]) :=
  seineref9_Entry_run (by simp [seineref9_Entry_B, seineref9_is_ok s n _ _ _ hl])
theorem seineref9_Object_ok (s : GSchema) (n : Str) (hl : Sm s.defs) : seineref9_Object s n = some (kindD s n [1]) :=
  seineref9_Object_run (by simp [seineref9_Object_B, seineref9_is_ok s n _ _ _ hl, kindD_one])

/-! what is possible -/
def addD (l : List Str) (n : Str) : List Str := bif l.contains n then l else l ++ [n]
theorem addD_len (l : List Str) (n : Str) : (addD l n).length ≤ l.length + 1 := by
  unfold addD; cases l.contains n <;> simp
theorem defs_add_ok (l : List Str) (n : Str) (hl : l.length < 1073741824) : defs_add l n = some (addD l n) := by
  apply defs_add_run
  simp only [defs_add_B, slices_Contains_string_ok l n (by show l.length < _; omega), bnd_s, tapp_ok (show l.length + [n].length ≤ lim by simp [lim_val]; omega), addD]
  cases l.contains n <;> rfl
def possD (s : GSchema) (n : Str) : List Str :=
  bif !(findD s n).2 then [] else bif (findD s n).1.kind == 1 then [n] else
  bif (findD s n).1.kind == 2 then s.defs.foldl (fun l x => bif x.kind == 1 && x.faces.contains n then addD l x.name else l) [] else
  bif (findD s n).1.kind == 3 then (findD s n).1.parts.foldl (fun l p => bif kindD s p [1] then addD l p else l) [] else []
/-- Short enough. -/
structure SOk (s : GSchema) : Prop where
  bk : bkSchema s < 1073741824
theorem bkDef_pos (d : GDef) : 1 ≤ bkDef d := by rw [bkDef_eq]; omega
theorem bkFieldDef_pos (d : GFieldDef) : 1 ≤ bkFieldDef d := by rw [bkFieldDef_eq]; omega
theorem bkParam_pos (d : GParam) : 1 ≤ bkParam d := by rw [bkParam_eq]; omega
theorem bkDir_pos (d : GDir) : 1 ≤ bkDir d := by rw [bkDir_eq]; omega
theorem bkMember_pos (d : GMember) : 1 ≤ bkMember d := by rw [bkMember_eq]; omega
theorem SOk.defs {s : GSchema} (h : SOk s) : s.defs.length < 1073741824 := by
  have h1 := h.bk; rw [bkSchema_eq] at h1
  have h2 := sl_len bkDef_pos s.defs
  omega
theorem SOk.def_bk {s : GSchema} (h : SOk s) {d : GDef} (hd : d ∈ s.defs) : bkDef d < 1073741824 := by
  have h1 := h.bk; rw [bkSchema_eq] at h1
  have h2 := sl_mem (f := bkDef) hd
  omega
theorem SOk.faces {s : GSchema} (h : SOk s) (d : GDef) (hd : d ∈ s.defs) : d.faces.length < 1073741824 := by
  have h1 := h.def_bk hd; rw [bkDef_eq] at h1
  have h2 := sl_len bkStr_pos d.faces
  omega
theorem SOk.parts {s : GSchema} (h : SOk s) (d : GDef) (hd : d ∈ s.defs) : d.parts.length < 1073741824 := by
  have h1 := h.def_bk hd; rw [bkDef_eq] at h1
  have h2 := sl_len bkStr_pos d.parts
  omega
theorem SOk.fields {s : GSchema} (h : SOk s) (d : GDef) (hd : d ∈ s.defs) : d.fields.length < 1073741824 := by
  have h1 := h.def_bk hd; rw [bkDef_eq] at h1
  have h2 := sl_len bkFieldDef_pos d.fields
  omega
theorem SOk.sm {s : GSchema} (h : SOk s) : Sm s.defs := by have := h.defs; show s.defs.length < _; omega
theorem findD_mem (s : GSchema) (n : Str) : (findD s n).1 ∈ s.defs ∨ ((findD s n).1.faces = [] ∧ (findD s n).1.fields = [] ∧ (findD s n).1.parts = [] ∧ (findD s n).1.params = []) := by
  unfold findD
  cases scalarN n
  · simp only [cond_false]
    cases h : s.defs.find? (fun d => d.name == n) with
    | none => exact .inr ⟨rfl, rfl, rfl, rfl⟩
    | some d => exact .inl (List.mem_of_find?_eq_some h)
  · exact .inr ⟨rfl, rfl, rfl, rfl⟩
theorem SOk.partsF {s : GSchema} (h : SOk s) (n : Str) : (findD s n).1.parts.length < 1073741824 := by
  rcases findD_mem s n with hm | ⟨_, _, hp, _⟩
  · exact h.parts _ hm
  · rw [hp]; decide
theorem SOk.fieldsF {s : GSchema} (h : SOk s) (n : Str) : (findD s n).1.fields.length < 1073741824 := by
  rcases findD_mem s n with hm | ⟨_, hp, _, _⟩
  · exact h.fields _ hm
  · rw [hp]; decide
theorem defs_Possible_ok (s : GSchema) (n : Str) (h : SOk s) : defs_Possible s n = some (possD s n) := by
  apply defs_Possible_run
  have hs := h.sm
  have hd := h.defs
  have hp := h.partsF n
  have k1 := loop_fold (b := defs_Possible_l1T s n) s.defs (fun k (a : List Str) => (a, (k : Int))) (fun l x => bif x.kind == 1 && x.faces.contains n then addD l x.name else l) id (fun k a => a.length ≤ k) hs
    (by intro a _; simp [defs_Possible_l1T])
    (by
      intro k x a hm hk h1 h2 h3 hI
      simp only [defs_Possible_l1T, h1, cnd_t, h2, bnd_s, h3, slices_Contains_string_ok x.faces n (by have := h.faces x hm; show x.faces.length < _; omega), defs_add_ok a x.name (by omega)]
      cases x.kind == 1
      · exact ⟨rfl, by simp only [Bool.false_and, cond_false]; omega⟩
      · cases x.faces.contains n
        · exact ⟨rfl, by simp only [Bool.and_false, cond_false]; omega⟩
        · exact ⟨rfl, by simp only [Bool.and_self, cond_true]; have := addD_len a x.name; omega⟩) (s := ([], 0)) (a := []) rfl (by simp)
  have k2 := loop_fold (b := defs_Possible_l2T s (findD s n)) (findD s n).1.parts (fun k (a : List Str) => (a, (k : Int))) (fun l p => bif kindD s p [1] then addD l p else l) id (fun k a => a.length ≤ k) (by show (findD s n).1.parts.length < _; omega)
    (by intro a _; simp [defs_Possible_l2T])
    (by
      intro k x a hm hk h1 h2 h3 hI
      simp only [defs_Possible_l2T, h1, cnd_t, h2, bnd_s, h3, defs_Kind_ok s x [1] hs (by decide), defs_add_ok a x (by omega)]
      cases kindD s x [1]
      · exact ⟨rfl, by simp only [cond_false]; omega⟩
      · exact ⟨rfl, by simp only [cond_true]; have := addD_len a x; omega⟩) (s := ([], 0)) (a := []) rfl (by simp)
  simp only [defs_Possible_B, defs_Find_ok s n hs, bnd_s, k1, k2, possD, id]
  cases (findD s n).2 <;> cases (findD s n).1.kind == 1 <;> cases (findD s n).1.kind == 2 <;> cases (findD s n).1.kind == 3 <;> rfl
theorem seineref9_Possible_ok (s : GSchema) (n : Str) (h : SOk s) : seineref9_Possible s n = some (possD s n) := by
  apply seineref9_Possible_run
  have hs := h.sm
  have hd := h.defs
  have hp := h.partsF n
  have ta : ∀ (a : List Str) (x : Str), a.length < 1073741824 → tapp a [x] = some (a ++ [x]) := fun a x ha => tapp_ok (by simp [lim_val]; omega)
  have k1 := loop_fold (b := seineref9_Possible_l1T s n) s.defs (fun k (a : List Str) => (a, (k : Int))) (fun l x => bif x.kind == 1 && x.faces.contains n then addD l x.name else l) id (fun k a => a.length ≤ k) hs
    (by intro a _; simp [seineref9_Possible_l1T])
    (by
      intro k x a hm hk h1 h2 h3 hI
      simp only [seineref9_Possible_l1T, h1, cnd_t, h2, bnd_s, h3, seineref1_Has_ok x.faces n (by have := h.faces x hm; show x.faces.length < _; omega), seineref1_Has_ok a x.name (by show a.length < _; omega), ta a x.name (by omega)]
      cases x.kind == 1
      · exact ⟨rfl, by simp only [Bool.false_and, cond_false]; omega⟩
      · cases x.faces.contains n
        · exact ⟨rfl, by simp only [Bool.and_false, cond_false]; omega⟩
        · unfold addD
          cases a.contains x.name
          · exact ⟨rfl, by simp; omega⟩
          · exact ⟨rfl, by simp; omega⟩) (s := ([], 0)) (a := []) rfl (by simp)
  have k2 := loop_fold (b := seineref9_Possible_l2T s (findD s n)) (findD s n).1.parts (fun k (a : List Str) => (a, (k : Int))) (fun l p => bif kindD s p [1] then addD l p else l) id (fun k a => a.length ≤ k) (by show (findD s n).1.parts.length < _; omega)
    (by intro a _; simp [seineref9_Possible_l2T])
    (by
      intro k x a hm hk h1 h2 h3 hI
      simp only [seineref9_Possible_l2T, h1, cnd_t, h2, bnd_s, h3, seineref9_Object_ok s x hs, seineref1_Has_ok a x (by show a.length < _; omega), ta a x (by omega)]
      cases kindD s x [1]
      · exact ⟨rfl, by simp only [cond_false]; omega⟩
      · unfold addD
        cases a.contains x
        · exact ⟨rfl, by simp; omega⟩
        · exact ⟨rfl, by simp; omega⟩) (s := ([], 0)) (a := []) rfl (by simp)
  simp only [seineref9_Possible_B, seineref9_Find_ok s n hs, bnd_s, k1, k2, possD, id, show tapp ([] : List Str) [n] = some [n] from rfl]
  cases (findD s n).2 <;> cases (findD s n).1.kind == 1 <;> cases (findD s n).1.kind == 2 <;> cases (findD s n).1.kind == 3 <;> rfl
end Go.Proofs.Ytigiafabnidggaa

/-
  Layer 9, defs: fields, meeting; copies and likenesses of schemas.
-/
set_option linter.unusedVariables false
set_option linter.unusedSimpArgs false
open Go Go.Ev
namespace Go.Proofs.Ytigiafabnidggaa

abbrev zF : GFieldDef := ⟨[], [], ⟨[], 0, 0⟩, []⟩
abbrev tnS : Str := [95, 95, 116, 121, 112, 101, 110, 97, 109, 101]
abbrev tnF : GFieldDef := ⟨tnS, [], ⟨[83, 116, 114, 105, 110, 103], 0, 1⟩, []⟩
theorem IndexFunc_ok (l : List GFieldDef) (d : GDef) (a b : Str) (p q : Int) (name : Str) (s : GSchema) (hl : Sm l) :
    ∃ i, slices_IndexFunc_FieldDef l d a b p q name s = some i ∧ (match l.find? (fun f => f.name == name) with | some f => decide (i < 0) = false ∧ nthI l i = some f | none => decide (i < 0) = true) := by
  have hc : ∀ f, defs_Field_1 f d a b p q name s = some (f.name == name) := fun f => defs_Field_1_run rfl
  have key := loop_list (b := slices_IndexFunc_FieldDef_l1T l d a b p q name s) l (fun k (_ : Nat) => (k : Int)) (fun r k => match r.findIdx? (fun f => f.name == name) with | some j => Sum.inr ((k + j : Nat) : Int) | none => Sum.inl ()) (fun k a => a = k) hl
    (by intro a _; simp [slices_IndexFunc_FieldDef_l1T])
    (by
      intro k x r a' hm hk hd h1 h2 h3 hI
      subst hI
      simp only [slices_IndexFunc_FieldDef_l1T, h1, cnd_t, h2, bnd_s, h3, hc, List.findIdx?_cons]
      cases hv : x.name == name
      · refine .inr ⟨a' + 1, rfl, rfl, ?_⟩
        simp only [Bool.false_eq_true, if_false]
        cases r.findIdx? (fun f => f.name == name) with
        | none => rfl
        | some j => simp only [Option.map_some]; congr 2; omega
      · left; simp) (s := 0) (a := 0) rfl rfl
  have hrun : ∀ i, slices_IndexFunc_FieldDef_B l d a b p q name s = some i → slices_IndexFunc_FieldDef l d a b p q name s = some i := fun i h => slices_IndexFunc_FieldDef_run h
  unfold slices_IndexFunc_FieldDef_B at hrun
  rw [key] at hrun
  simp only [bnd_s, Nat.zero_add] at hrun
  cases hf : l.findIdx? (fun f => f.name == name) with
  | none =>
    rw [hf] at hrun
    refine ⟨-1, hrun _ rfl, ?_⟩
    rw [List.findIdx?_eq_none_iff] at hf
    have : l.find? (fun f => f.name == name) = none := List.find?_eq_none.2 fun x hx => by simp [hf x hx]
    rw [this]; rfl
  | some j =>
    rw [hf] at hrun
    refine ⟨(j : Int), hrun _ rfl, ?_⟩
    obtain ⟨hj, hp, hq⟩ := List.findIdx?_eq_some_iff_getElem.1 hf
    have : l.find? (fun f => f.name == name) = some l[j] := by
      rw [List.find?_eq_some_iff_getElem]
      exact ⟨hp, j, hj, rfl, fun k hk => by simpa using hq k hk⟩
    rw [this]
    exact ⟨by simp, by rw [nthI_nat, List.getElem?_eq_getElem hj]⟩
def fieldD (s : GSchema) (typ name : Str) : GFieldDef × Bool :=
  bif name == tnS && kindD s typ [1, 2, 3] then (tnF, true) else bif (findD s typ).1.kind == 1 || (findD s typ).1.kind == 2 then (match (findD s typ).1.fields.find? (fun f => f.name == name) with | some f => (f, true) | none => (zF, false)) else (zF, false)
theorem findD_none {s : GSchema} {n : Str} (h : (findD s n).2 = false) : (findD s n).1 = zDef := by
  revert h
  unfold findD
  cases scalarN n
  · simp only [cond_false]
    cases hf : s.defs.find? (fun d => d.name == n) with
    | none => intro _; rfl
    | some d => intro h; simp at h
  · intro h; simp at h
theorem defs_Field_ok (s : GSchema) (typ name : Str) (h : SOk s) : defs_Field s typ name = some (fieldD s typ name) := by
  apply defs_Field_run
  have hs := h.sm
  have hf := h.fieldsF typ
  obtain ⟨i, h1, h2⟩ := IndexFunc_ok (findD s typ).1.fields (findD s typ).1 [] [] 0 0 name s (by show (findD s typ).1.fields.length < _; omega)
  have tail : (cnd (!(findD s typ).2) (some (zF, false)) (cnd ((findD s typ).1.kind != 1) (cnd ((findD s typ).1.kind != 2) (some (zF, false)) (cnd (decide (i < 0)) (some (zF, false)) (bnd (nthI (findD s typ).1.fields i) fun y => some (y, true)))) (cnd (decide (i < 0)) (some (zF, false)) (bnd (nthI (findD s typ).1.fields i) fun y => some (y, true))))) =
      some (bif (findD s typ).1.kind == 1 || (findD s typ).1.kind == 2 then (match (findD s typ).1.fields.find? (fun f => f.name == name) with | some f => (f, true) | none => (zF, false)) else (zF, false)) := by
    have e1 : ((findD s typ).1.kind != 1) = !((findD s typ).1.kind == 1) := rfl
    have e2 : ((findD s typ).1.kind != 2) = !((findD s typ).1.kind == 2) := rfl
    cases h3 : (findD s typ).2
    · rw [findD_none h3]; rfl
    · rw [e1, e2]
      cases hff : (findD s typ).1.fields.find? (fun f => f.name == name) with
      | none => rw [hff] at h2; simp only at h2; rw [h2]; cases (findD s typ).1.kind == 1 <;> cases (findD s typ).1.kind == 2 <;> rfl
      | some f => rw [hff] at h2; obtain ⟨h4, h5⟩ := h2; rw [h4, h5]; cases (findD s typ).1.kind == 1 <;> cases (findD s typ).1.kind == 2 <;> rfl
  simp only [defs_Field_B, defs_Composite_ok s typ hs, defs_Find_ok s typ hs, bnd_s, h1, fieldD]
  rw [tail]
  cases name == tnS <;> cases kindD s typ [1, 2, 3] <;> rfl
theorem fieldEta (f : GFieldDef) : (⟨f.name, f.params, ⟨f.t.name, f.t.lists, f.t.musts⟩, f.dirs⟩ : GFieldDef) = f := rfl
theorem seineref9_Field_ok (s : GSchema) (typ name : Str) (h : SOk s) : seineref9_Field s typ name = some (fieldD s typ name) := by
  apply seineref9_Field_run
  have hs := h.sm
  have hf := h.fieldsF typ
  have sm : Sm (findD s typ).1.fields := by show (findD s typ).1.fields.length < _; omega
  have hg : ∀ b : Int → Option (Int ⊕ (Unit ⊕ (Str × List GParam × Str × Int × Int × List GDir))), (∀ k : Int, b k = cnd (decide (k < (List.length (findD s typ).1.fields : Int))) (bnd (nthI (findD s typ).1.fields k) fun x => cnd (x.name == name) (bnd (nthI (findD s typ).1.fields k) fun y => some (.inr (.inr (y.name, y.params, y.t.name, y.t.lists, y.t.musts, y.dirs)))) (some (.inl (IntKind.wrap .i64 (k + 1))))) (some (.inr (.inl ())))) →
      tloop b 0 = some (match (findD s typ).1.fields.find? (fun f => f.name == name) with | some y => .inr (y.name, y.params, y.t.name, y.t.lists, y.t.musts, y.dirs) | none => .inl ()) := by
    intro b hb
    rw [loop_find (b := b) (findD s typ).1.fields (fun y => if (y.name == name) = true then some (.inr (y.name, y.params, y.t.name, y.t.lists, y.t.musts, y.dirs)) else none) (.inl ()) sm (by rw [hb]; simp) (by
      intro k x hm h1 h2 h3
      rw [hb]
      simp only [h1, cnd_t, h2, bnd_s, h3]
      cases x.name == name <;> rfl)]
    rw [find_some]
    cases (findD s typ).1.fields.find? (fun f => f.name == name) <;> rfl
  have e1 : ((findD s typ).1.kind != 1) = !((findD s typ).1.kind == 1) := rfl
  have e2 : ((findD s typ).1.kind != 2) = !((findD s typ).1.kind == 2) := rfl
  simp only [seineref9_Field_B, seineref9_Composite_ok s typ hs, seineref9_Find_ok s typ hs, bnd_s, fieldD, e1, e2]
  rw [hg (seineref9_Field_l1T name (findD s typ)) (fun k => rfl), hg (seineref9_Field_l2T name (findD s typ)) (fun k => rfl), hg (seineref9_Field_l3T name (findD s typ)) (fun k => rfl), hg (seineref9_Field_l4T name (findD s typ)) (fun k => rfl)]
  simp only [bnd_s]
  cases hn : name == tnS
  · cases (findD s typ).1.fields.find? (fun f => f.name == name) <;> cases (findD s typ).1.kind == 1 <;> cases (findD s typ).1.kind == 2 <;> rfl
  · have hn' : name = tnS := beq_iff_eq.1 hn
    subst hn'
    cases kindD s typ [1, 2, 3] <;> cases (findD s typ).1.fields.find? (fun f => f.name == tnS) <;> cases (findD s typ).1.kind == 1 <;> cases (findD s typ).1.kind == 2 <;> rfl

/-! meeting -/
theorem foldl_add_len {α : Type} (c : α → Bool) (f : α → Str) : ∀ (l : List α) (a : List Str), (l.foldl (fun l x => bif c x then addD l (f x) else l) a).length ≤ a.length + l.length
  | [], a => by simp
  | x :: l, a => by
    have := foldl_add_len c f l (bif c x then addD a (f x) else a)
    have h2 := addD_len a (f x)
    rw [List.foldl_cons, List.length_cons]
    cases hc : c x <;> rw [hc] at this <;> simp only [cond_true, cond_false] at this ⊢ <;> omega
theorem possD_len (s : GSchema) (n : Str) (h : SOk s) : (possD s n).length < 1073741824 := by
  have h1 := h.defs
  have h2 := h.partsF n
  have h3 := foldl_add_len (fun x : GDef => x.kind == 1 && x.faces.contains n) (fun x => x.name) s.defs []
  have h4 := foldl_add_len (fun p : Str => kindD s p [1]) (fun p => p) (findD s n).1.parts []
  simp only [List.length_nil, Nat.zero_add] at h3 h4
  unfold possD
  cases (findD s n).2 <;> cases (findD s n).1.kind == 1 <;> cases (findD s n).1.kind == 2 <;> cases (findD s n).1.kind == 3 <;> simp only [Bool.not_true, Bool.not_false, cond_true, cond_false, List.length_nil, List.length_singleton] <;> omega
def meetsD (s : GSchema) (a b : Str) : Bool := (possD s a).any fun x => (possD s b).contains x
theorem defs_Meets_ok (s : GSchema) (a b : Str) (h : SOk s) : defs_Meets s a b = some (meetsD s a b) := by
  apply defs_Meets_run
  have ha := possD_len s a h
  have hb := possD_len s b h
  have hin : ∀ x, tloop (defs_Meets_l1T (possD s b) x) 0 = some (bif (possD s b).contains x then .inr () else .inl ()) := by
    intro x
    exact loop_idx (b := defs_Meets_l1T (possD s b) x) (possD s b) (fun r => bif r.contains x then .inr () else .inl ()) (by show (possD s b).length < _; omega) (by simp [defs_Meets_l1T]) (by
      intro k y r hm h1 h2 h3
      simp only [defs_Meets_l1T, h1, cnd_t, h2, bnd_s, h3, List.contains_cons]
      cases x == y
      · right; simp
      · left; simp)
  simp only [defs_Meets_B, defs_Possible_ok s a h, defs_Possible_ok s b h, bnd_s]
  rw [loop_idx (b := defs_Meets_l2T (possD s b) (possD s a)) (possD s a) (fun r => r.any fun x => (possD s b).contains x) (by show (possD s a).length < _; omega) (by simp [defs_Meets_l2T]) (by
    intro k y r hm h1 h2 h3
    simp only [defs_Meets_l2T, h1, cnd_t, h2, bnd_s, h3, hin, List.any_cons]
    cases (possD s b).contains y
    · right; simp
    · left; simp)]
  rfl
theorem seineref9_Meets_ok (s : GSchema) (a b : Str) (h : SOk s) : seineref9_Meets s a b = some (meetsD s a b) := by
  apply seineref9_Meets_run
  have ha := possD_len s a h
  have hb := possD_len s b h
  simp only [seineref9_Meets_B, seineref9_Possible_ok s a h, seineref9_Possible_ok s b h, bnd_s]
  rw [loop_idx (b := seineref9_Meets_l1T (possD s a) (possD s b)) (possD s a) (fun r => bif r.any fun x => (possD s b).contains x then .inr () else .inl ()) (by show (possD s a).length < _; omega) (by simp [seineref9_Meets_l1T]) (by
    intro k y r hm h1 h2 h3
    simp only [seineref9_Meets_l1T, h1, cnd_t, h2, bnd_s, h3, seineref1_Has_ok (possD s b) y (by show (possD s b).length < _; omega), List.any_cons]
    cases (possD s b).contains y
    · right; simp
    · left; simp)]
  unfold meetsD
  cases (possD s a).any fun x => (possD s b).contains x <;> rfl
theorem meetsD_comm (s : GSchema) (a b : Str) : meetsD s a b = meetsD s b a := by
  unfold meetsD
  rw [Bool.eq_iff_iff]
  simp only [List.any_eq_true, List.contains_iff_mem]
  constructor <;> rintro ⟨x, h1, h2⟩ <;> exact ⟨x, h2, h1⟩
theorem meetsD_self (s : GSchema) (a : Str) : meetsD s a a = decide (((possD s a).length : Int) > 0) := by
  unfold meetsD
  cases h : possD s a with
  | nil => rfl
  | cons x l => simp
end Go.Proofs.Ytigiafabnidggaa

/-
  Copies are what they are copies of; what is like is like itself; how light a schema is, is told.
-/
set_option linter.unusedVariables false
set_option linter.unusedSimpArgs false
open Go Go.Ev
namespace Go.Proofs.Ytigiafabnidggaa

/-! copies -/
theorem tapp_nil {α : Type} (l : List α) (h : l.length < 1073741824) : tapp ([] : List α) l = some l := by
  rw [tapp_ok (by simp [lim_val]; omega)]; rfl
theorem members_keep (m : List GMember) (hm : m.length < 1073741824) (h : ∀ x ∈ m, seinekeep_Value x.v = some x.v) : seinekeep_Members m = some m := by
  apply seinekeep_Members_run
  unfold seinekeep_Members_B
  rw [loop_copy (b := seinekeep_Members_l1T m) m (fun k a => (a, (k : Int))) hm (by intro a; simp [seinekeep_Members_l1T]) (by
    intro k x a hx h1 h2 h3 h4
    simp only [seinekeep_Members_l1T, h1, cnd_t, h2, bnd_s, h3, h4, h x hx]
    cases x; rfl) (s := ([], 0)) rfl]
  rfl
theorem seinekeep_Value_ok' : ∀ (n : Nat), n < 1073741824 → ∀ v : GValue, szV v ≤ n → seinekeep_Value v = some v := by
  intro n
  induction n with
  | zero => intro _ v h; have := szV_eq v; omega
  | succ n ih =>
    intro hn v h
    have hv := szV_eq v
    have hl := szVs_len v.l
    have hm := szMs_len v.m
    apply seinekeep_Value_run
    unfold seinekeep_Value_B
    rw [loop_copy (b := seinekeep_Value_l1T v) v.l (fun k a => (a, (k : Int))) (by omega) (by intro a; simp [seinekeep_Value_l1T]) (by
      intro k x a hx h1 h2 h3 h4
      simp only [seinekeep_Value_l1T, h1, cnd_t, h2, bnd_s, h3, h4, ih (by omega) x (by have := szVs_mem hx; omega)]) (s := ([], 0)) rfl]
    simp only [bnd_s, members_keep v.m (by omega) fun x hx => ih (by omega) x.v (by have := szMs_mem hx; have := szM_eq x; omega)]
    cases v; rfl
theorem seinekeep_Value_ok (v : GValue) (h : szV v < 1073741824) : seinekeep_Value v = some v := seinekeep_Value_ok' _ h v (Nat.le_refl _)
theorem szV_mem_bk {m : List GMember} (h : bkSl bkMember m < 1073741824) {x : GMember} (hx : x ∈ m) : szV x.v < 1073741824 := by
  have h1 := sl_mem (f := bkMember) hx
  have h2 := szM_bk x
  have h3 := szM_eq x
  omega
theorem seinekeep_Dirs_ok (l : List GDir) (h : bkSl bkDir l < 1073741824) : seinekeep_Dirs l = some l := by
  apply seinekeep_Dirs_run
  unfold seinekeep_Dirs_B
  have hl := sl_len bkDir_pos l
  rw [loop_copy (b := seinekeep_Dirs_l1T l) l (fun k a => (a, (k : Int))) (by omega) (by intro a; simp [seinekeep_Dirs_l1T]) (by
    intro k x a hx h1 h2 h3 h4
    have hb := sl_mem (f := bkDir) hx
    rw [bkDir_eq] at hb
    have hm := sl_len bkMember_pos x.args
    simp only [seinekeep_Dirs_l1T, h1, cnd_t, h2, bnd_s, h3, h4, members_keep x.args (by omega) fun y hy => seinekeep_Value_ok y.v (szV_mem_bk (by omega) hy)]) (s := ([], 0)) rfl]
  rfl
theorem seinekeep_Params_ok (l : List GParam) (h : l.length < 1073741824) : seinekeep_Params l = some l := by
  apply seinekeep_Params_run
  simp only [seinekeep_Params_B, tapp_nil l h, bnd_s]
theorem seinekeep_Schema_ok (s : GSchema) (h : SOk s) : seinekeep_Schema s = some s := by
  apply seinekeep_Schema_run
  unfold seinekeep_Schema_B
  rw [loop_copy (b := seinekeep_Schema_l2T s) s.defs (fun k a => ((k : Int), a)) h.defs (by intro a; simp [seinekeep_Schema_l2T]) (by
    intro k d a hd h1 h2 h3 h4
    have hb := h.def_bk hd
    rw [bkDef_eq] at hb
    have hp := sl_len bkParam_pos d.params
    rw [seinekeep_Schema_l2T, h1, cnd_t, h2, bnd_s]
    rw [loop_copy (b := seinekeep_Schema_l1T d) d.fields (fun k a => (a, (k : Int))) (h.fields d hd) (by intro a; simp [seinekeep_Schema_l1T]) (by
      intro k f a hf h1 h2 h3 h4
      have hfb := sl_mem (f := bkFieldDef) hf
      rw [bkFieldDef_eq] at hfb
      have hp := sl_len bkParam_pos f.params
      simp only [seinekeep_Schema_l1T, h1, cnd_t, h2, bnd_s, h3, h4, seinekeep_Params_ok f.params (by omega), seinekeep_Dirs_ok f.dirs (by omega)]) (s := ([], 0)) rfl]
    simp only [bnd_s, seinekeep_Params_ok d.params (by omega), tapp_nil d.faces (h.faces d hd), tapp_nil d.parts (h.parts d hd), h3, h4]) (s := (0, [])) rfl]
  rfl

/-! likenesses -/
theorem seineref6_Texts_self (l : List Str) (h : l.length < 1073741824) : seineref6_Texts l l = some true := by
  apply seineref6_Texts_run
  unfold seineref6_Texts_B
  rw [loop_all (b := seineref6_Texts_l1T l l) l (.inl ()) (by show l.length < _; omega) (by simp [seineref6_Texts_l1T]) (by
    intro k x hx h1 h2 h3
    simp only [seineref6_Texts_l1T, h1, cnd_t, h2, bnd_s, h3, beq_self_eq_true, Bool.not_true, cnd_f])]
  simp
theorem seinekeep_SameTexts_self (l : List Str) (h : l.length < 1073741824) : seinekeep_SameTexts l l = some true := by
  apply seinekeep_SameTexts_run
  unfold seinekeep_SameTexts_B
  rw [loop_all (b := seinekeep_SameTexts_l1T l l) l (.inl ()) (by show l.length < _; omega) (by simp [seinekeep_SameTexts_l1T]) (by
    intro k x hx h1 h2 h3
    simp only [seinekeep_SameTexts_l1T, h1, cnd_t, h2, bnd_s, h3, beq_self_eq_true, Bool.not_true, cnd_f])]
  simp
theorem seineref6_SameParams_self (l : List GParam) (h : bkSl bkParam l < 1073741824) : seineref6_SameParams l l = some true := by
  apply seineref6_SameParams_run
  unfold seineref6_SameParams_B
  have hl := sl_len bkParam_pos l
  rw [loop_all (b := seineref6_SameParams_l1T l l) l (.inl ()) (by show l.length < _; omega) (by simp [seineref6_SameParams_l1T]) (by
    intro k x hx h1 h2 h3
    have hb := sl_mem (f := bkParam) hx
    rw [bkParam_eq] at hb
    have hv := szV_bk x.default
    simp only [seineref6_SameParams_l1T, h1, cnd_t, h2, bnd_s, h3, beq_self_eq_true, Bool.not_true, cnd_f, Bool.and_self, seineref1_Same_self x.default (by omega)])]
  simp
theorem seineref6_SameDirs_self (l : List GDir) (h : bkSl bkDir l < 1073741824) : seineref6_SameDirs l l = some true := by
  apply seineref6_SameDirs_run
  unfold seineref6_SameDirs_B
  have hl := sl_len bkDir_pos l
  rw [loop_all (b := seineref6_SameDirs_l1T l l) l (.inl ()) (by show l.length < _; omega) (by simp [seineref6_SameDirs_l1T]) (by
    intro k x hx h1 h2 h3
    have hb := sl_mem (f := bkDir) hx
    rw [bkDir_eq] at hb
    have hm := sl_len bkMember_pos x.args
    simp only [seineref6_SameDirs_l1T, h1, cnd_t, h2, bnd_s, h3, beq_self_eq_true, Bool.not_true, cnd_f, members_of x.args (by omega) fun y hy => seineref1_Same_self y.v (szV_mem_bk (by omega) hy)])]
  simp
theorem seineref6_SameField_self (f : GFieldDef) (h : bkFieldDef f < 1073741824) : seineref6_SameField f f = some true := by
  apply seineref6_SameField_run
  rw [bkFieldDef_eq] at h
  simp [seineref6_SameField_B, seineref6_SameParams_self f.params (by omega), seineref6_SameDirs_self f.dirs (by omega)]
theorem seineref6_SameDef_self (d : GDef) (h : bkDef d < 1073741824) : seineref6_SameDef d d = some true := by
  apply seineref6_SameDef_run
  rw [bkDef_eq] at h
  have h1 := sl_len bkStr_pos d.faces
  have h2 := sl_len bkStr_pos d.parts
  have h3 := sl_len bkFieldDef_pos d.fields
  unfold seineref6_SameDef_B
  rw [loop_all (b := seineref6_SameDef_l1T d d) d.fields (.inl ()) (by show d.fields.length < _; omega) (by simp [seineref6_SameDef_l1T]) (by
    intro k x hx h1 h2 h3
    have hb := sl_mem (f := bkFieldDef) hx
    simp only [seineref6_SameDef_l1T, h1, cnd_t, h2, bnd_s, h3, seineref6_SameField_self x (by omega), Bool.not_true, cnd_f])]
  simp [seineref6_Texts_self d.faces (by omega), seineref6_Texts_self d.parts (by omega), seineref6_SameParams_self d.params (by omega)]
theorem seineref6_SameSchema_self (s : GSchema) (h : SOk s) : seineref6_SameSchema s s = some true := by
  apply seineref6_SameSchema_run
  have hd := h.defs
  unfold seineref6_SameSchema_B
  rw [loop_all (b := seineref6_SameSchema_l1T s s) s.defs (.inl ()) h.sm (by simp [seineref6_SameSchema_l1T]) (by
    intro k x hx h1 h2 h3
    simp only [seineref6_SameSchema_l1T, h1, cnd_t, h2, bnd_s, h3, seineref6_SameDef_self x (h.def_bk hx), Bool.not_true, cnd_f])]
  simp

/-! how light -/
theorem lightTexts_ex (l : List Str) (h : l.length < 1073741824) : ∃ n, seinelaw8_lightTexts l = some n := by
  obtain ⟨r, hr⟩ := loop_ex (b := seinelaw8_lightTexts_l1T l) l (fun k (a : Int) => (a, (k : Int))) (by show l.length < _; omega) (fun a => ⟨a, by simp [seinelaw8_lightTexts_l1T]⟩) (by
    intro k x a hx h1 h2 h3
    right; simp only [seinelaw8_lightTexts_l1T, h1, cnd_t, h2, bnd_s, h3]; exact ⟨_, rfl⟩) (s := (0, 0)) (a := 0) rfl
  exact ⟨r, seinelaw8_lightTexts_run (by simp only [seinelaw8_lightTexts_B, hr, bnd_s])⟩
theorem lightParams_ex (l : List GParam) (h : bkSl bkParam l < 1073741824) : ∃ n, seinelaw8_lightParams l = some n := by
  have hl := sl_len bkParam_pos l
  obtain ⟨r, hr⟩ := loop_ex (b := seinelaw8_lightParams_l1T l) l (fun k (a : Int) => (a, (k : Int))) (by show l.length < _; omega) (fun a => ⟨a, by simp [seinelaw8_lightParams_l1T]⟩) (by
    intro k x a hx h1 h2 h3
    have hb := sl_mem (f := bkParam) hx
    rw [bkParam_eq] at hb
    have hv := szV_bk x.default
    right; simp only [seinelaw8_lightParams_l1T, h1, cnd_t, h2, bnd_s, h3, seinekeep_Size_ok x.default (by omega)]; exact ⟨_, rfl⟩) (s := (0, 0)) (a := 0) rfl
  exact ⟨r, seinelaw8_lightParams_run (by simp only [seinelaw8_lightParams_B, hr, bnd_s])⟩
theorem lightDirs_ex (l : List GDir) (h : bkSl bkDir l < 1073741824) : ∃ n, seinelaw8_lightDirs l = some n := by
  have hl := sl_len bkDir_pos l
  obtain ⟨r, hr⟩ := loop_ex (b := seinelaw8_lightDirs_l1T l) l (fun k (a : Int) => (a, (k : Int))) (by show l.length < _; omega) (fun a => ⟨a, by simp [seinelaw8_lightDirs_l1T]⟩) (by
    intro k x a hx h1 h2 h3
    have hb := sl_mem (f := bkDir) hx
    rw [bkDir_eq] at hb
    have hv : szV ⟨0, 0, [], [], x.args⟩ < 4611686018427387904 := by
      have h4 := szMs_bk x.args
      rw [bkMembers_eq] at h4
      simp only [szV, szVs, List.length_nil]
      have h5 : bkSl bkMember x.args = sumL bkMember x.args + 1 := rfl
      omega
    right; simp only [seinelaw8_lightDirs_l1T, h1, cnd_t, h2, bnd_s, h3, seinekeep_Size_ok _ hv]; exact ⟨_, rfl⟩) (s := (0, 0)) (a := 0) rfl
  exact ⟨r, seinelaw8_lightDirs_run (by simp only [seinelaw8_lightDirs_B, hr, bnd_s])⟩
theorem seinelaw8_Light_ex (s : GSchema) (h : SOk s) : ∃ b, seinelaw8_Light s = some b := by
  obtain ⟨r, hr⟩ := loop_ex (b := seinelaw8_Light_l2T s) s.defs (fun k (a : Int) => (a, (k : Int))) h.sm (fun a => ⟨a, by simp [seinelaw8_Light_l2T]⟩) (by
    intro k d a hd h1 h2 h3
    have hb := h.def_bk hd
    rw [bkDef_eq] at hb
    obtain ⟨n1, e1⟩ := lightTexts_ex d.faces (h.faces d hd)
    obtain ⟨n2, e2⟩ := lightTexts_ex d.parts (h.parts d hd)
    obtain ⟨n3, e3⟩ := lightParams_ex d.params (by omega)
    have hin : ∀ n0 : Int, ∃ n, tloop (seinelaw8_Light_l1T d) (n0, 0) = some n := by
      intro n0
      refine loop_ex (b := seinelaw8_Light_l1T d) d.fields (fun k (a : Int) => (a, (k : Int))) (by have := h.fields d hd; show d.fields.length < _; omega) (fun a => ⟨a, by simp [seinelaw8_Light_l1T]⟩) (by
        intro k f a hf h1 h2 h3
        have hfb := sl_mem (f := bkFieldDef) hf
        rw [bkFieldDef_eq] at hfb
        obtain ⟨m1, g1⟩ := lightParams_ex f.params (by omega)
        obtain ⟨m2, g2⟩ := lightDirs_ex f.dirs (by omega)
        right; simp only [seinelaw8_Light_l1T, h1, cnd_t, h2, bnd_s, h3, g1, g2]; exact ⟨_, rfl⟩) (a := n0) rfl
    right
    simp only [seinelaw8_Light_l2T, h1, cnd_t, h2, bnd_s, h3, e1, e2, e3]
    obtain ⟨n, hn⟩ := hin (IntKind.wrap .i64 ((IntKind.wrap .i64 ((IntKind.wrap .i64 ((IntKind.wrap .i64 ((IntKind.wrap .i64 (a + 1)) + (List.length d.name : Int))) + n1)) + n2)) + n3))
    rw [hn]
    exact ⟨n, rfl⟩) (s := (0, 0)) (a := 0) rfl
  exact ⟨decide (r ≤ 4000), seinelaw8_Light_run (by simp only [seinelaw8_Light_B, hr, bnd_s])⟩
end Go.Proofs.Ytigiafabnidggaa

/-
  The laws of layer 9, of the typed functions.
-/
set_option linter.unusedVariables false
set_option linter.unusedSimpArgs false
open Go Go.Ev
namespace Go.Proofs.Ytigiafabnidggaa

theorem SOk.of {s : GSchema} (h : bkSchema s ≤ 1048576) : SOk s := ⟨by omega⟩
theorem seinelaw9_awake_ok : seinelaw9_awake = some true := by
  apply seinelaw9_awake_run
  unfold seinelaw9_awake_B
  have hs : SOk (GSchema.mk [(GDef.mk 1 [65] ([] : List Str) [(GFieldDef.mk [120] ([] : List GParam) (GType.mk [73, 110, 116] 0 0) ([] : List GDir))] ([] : List Str) ([] : List GParam)), (GDef.mk 1 [66] ([] : List Str) ([] : List GFieldDef) ([] : List Str) ([] : List GParam)), (GDef.mk 3 [85] ([] : List Str) ([] : List GFieldDef) [[65], [66], [65]] ([] : List GParam))] [65] []) := ⟨by decide⟩
  rw [defs_Possible_ok _ _ hs, defs_Field_ok _ _ _ hs, defs_Leaf_ok _ _ hs.sm, defs_Leaf_ok _ _ hs.sm, defs_Meets_ok _ _ _ hs]
  rfl
theorem findD_name {s : GSchema} {n : Str} (h : (findD s n).2 = true) : (findD s n).1.name = n := by
  revert h
  unfold findD
  cases scalarN n
  · simp only [cond_false]
    cases hf : s.defs.find? (fun d => d.name == n) with
    | none => intro h; simp at h
    | some d => intro _; have := List.find?_some hf; simpa using this
  · intro _; rfl
theorem seinelaw9_DefsKinds_ok (s : GSchema) (n : Str) (h : SOk s) : seinelaw9_DefsKinds s n = some true := by
  apply seinelaw9_DefsKinds_run
  obtain ⟨b, hb⟩ := seinelaw8_Light_ex s h
  simp only [seinelaw9_DefsKinds_B, hb, bnd_s, seinelaw9_awake_ok, defs_Find_ok s n h.sm, defs_Leaf_ok s n h.sm, defs_Composite_ok s n h.sm, defs_Entry_ok s n h.sm]
  have key : ∀ k : Int, ([0, 4] : List Int).contains k = (k == 0 || k == 4) ∧ ([1, 2, 3] : List Int).contains k = (k == 1 || (k == 2 || k == 3)) ∧ ([0, 4, 5] : List Int).contains k = (k == 0 || (k == 4 || k == 5)) := by
    intro k; simp only [List.contains_cons, List.contains_nil, Bool.or_false, and_self]
  cases h2 : (findD s n).2
  · have hz := findD_none h2
    simp [kindD, h2, hz, cnd_same]
  · have hn := findD_name h2
    simp only [kindD, h2, Bool.true_and, key, hn, beq_self_eq_true]
    generalize (findD s n).1.kind = k
    by_cases k0 : k = 0
    · subst k0; simp [cnd_same]
    · by_cases k4 : k = 4
      · subst k4; simp [cnd_same]
      · by_cases k5 : k = 5
        · subst k5; simp [cnd_same]
        · have e0 : (k == 0) = false := by simpa using k0
          have e4 : (k == 4) = false := by simpa using k4
          have e5 : (k == 5) = false := by simpa using k5
          simp only [e0, e4, e5, Bool.false_or, Bool.or_false]
          cases (k == 1 || (k == 2 || k == 3)) <;> simp [cnd_same]
theorem seinelaw9_DefsMeets_ok (s : GSchema) (a b : Str) (h : SOk s) : seinelaw9_DefsMeets s a b = some true := by
  apply seinelaw9_DefsMeets_run
  obtain ⟨l, hb⟩ := seinelaw8_Light_ex s h
  simp only [seinelaw9_DefsMeets_B, hb, bnd_s, seinelaw9_awake_ok, defs_Meets_ok s _ _ h, seineref9_Meets_ok s _ _ h, defs_Possible_ok s a h, meetsD_self, meetsD_comm s b a, beq_self_eq_true, cnd_t, cnd_same]
theorem seinelaw9_DefsFields_ok (s : GSchema) (typ name : Str) (h : SOk s) : seinelaw9_DefsFields s typ name = some true := by
  apply seinelaw9_DefsFields_run
  obtain ⟨l, hb⟩ := seinelaw8_Light_ex s h
  have hsame : seineref6_SameField (fieldD s typ name).1 (fieldD s typ name).1 = some true := by
    apply seineref6_SameField_self
    unfold fieldD
    cases name == tnS && kindD s typ [1, 2, 3]
    · cases (findD s typ).1.kind == 1 || (findD s typ).1.kind == 2
      · show bkFieldDef zF < _; decide
      · simp only [cond_false, cond_true]
        cases hf : (findD s typ).1.fields.find? (fun f => f.name == name) with
        | none => show bkFieldDef zF < _; decide
        | some f =>
          have hm := List.mem_of_find?_eq_some hf
          rcases findD_mem s typ with hd | ⟨_, he, _⟩
          · have h1 := h.def_bk hd
            rw [bkDef_eq] at h1
            have h2 := sl_mem (f := bkFieldDef) hm
            show bkFieldDef f < _; omega
          · rw [he] at hm; simp at hm
    · show bkFieldDef tnF < _; decide
  have htn : fieldD s typ tnS = bif kindD s typ [1, 2, 3] then (tnF, true) else (fieldD s typ tnS) := by
    unfold fieldD; cases kindD s typ [1, 2, 3] <;> simp
  have hno : kindD s typ [1, 2, 3] = false → (fieldD s typ tnS).2 = false := by
    intro hk
    unfold fieldD
    simp only [hk, Bool.and_false, cond_false]
    have : ((findD s typ).1.kind == 1 || (findD s typ).1.kind == 2) = false ∨ (findD s typ).1.fields = [] := by
      cases h2 : (findD s typ).2
      · right; rw [findD_none h2]
      · left
        simp only [kindD, h2, Bool.true_and, List.contains_cons, List.contains_nil, Bool.or_false] at hk
        revert hk
        cases (findD s typ).1.kind == 1 <;> cases (findD s typ).1.kind == 2 <;> simp
    rcases this with h3 | h3
    · rw [h3]; rfl
    · rw [h3]; cases (findD s typ).1.kind == 1 || (findD s typ).1.kind == 2 <;> rfl
  simp only [seinelaw9_DefsFields_B, hb, bnd_s, seinelaw9_awake_ok, defs_Field_ok s _ _ h, seineref9_Field_ok s _ _ h, hsame, defs_Composite_ok s typ h.sm]
  cases hk : kindD s typ [1, 2, 3]
  · have := hno hk
    rw [this]
    simp [cnd_same]
  · rw [htn, hk]
    simp [cnd_same, show decide ((0 : Int) < IntKind.i64.wrap 0) = false from rfl]
theorem seinelaw9_DefsSays_ok (s : GSchema) (n : Str) (h : SOk s) (hn : n.length < 1073741700) : seinelaw9_DefsSays s n = some true := by
  apply seinelaw9_DefsSays_run
  obtain ⟨l, hb⟩ := seinelaw8_Light_ex s h
  have hsame : seineref6_SameDef (findD s n).1 (findD s n).1 = some true := by
    apply seineref6_SameDef_self
    rcases findD_mem s n with hm | ⟨h1, h2, h3, h4⟩
    · exact h.def_bk hm
    · rw [bkDef_eq, h1, h2, h3, h4]
      have : (findD s n).1.name.length < 1073741700 := by
        cases h5 : (findD s n).2
        · rw [findD_none h5]; decide
        · rw [findD_name h5]; exact hn
      simp only [bk1, bkStr, bkSl, sumL]; omega
  simp only [seinelaw9_DefsSays_B, hb, bnd_s, seinelaw9_awake_ok, seinekeep_Schema_ok s h, defs_Find_ok s n h.sm, seineref9_Find_ok s n h.sm, beq_self_eq_true, Bool.not_true, cnd_f, hsame, defs_Leaf_ok s n h.sm, seineref9_Leaf_ok s n h.sm, defs_Composite_ok s n h.sm, seineref9_Composite_ok s n h.sm, defs_Entry_ok s n h.sm, seineref9_Entry_ok s n h.sm, defs_Possible_ok s n h, seineref9_Possible_ok s n h, seinekeep_SameTexts_self _ (possD_len s n h), seineref6_SameSchema_self s h, cnd_t, cnd_same]

theorem addD_nodup {l : List Str} {n : Str} (h : l.Nodup) : (addD l n).Nodup := by
  unfold addD
  cases hc : l.contains n
  · simp only [cond_false]
    have hm : n ∉ l := by simpa using hc
    exact List.nodup_append.2 ⟨h, by simp, fun a ha b hb => by simp at hb; subst hb; exact fun e => hm (e ▸ ha)⟩
  · exact h
theorem addD_mem {l : List Str} {n x : Str} (h : x ∈ addD l n) : x ∈ l ∨ x = n := by
  unfold addD at h
  cases hc : l.contains n
  · rw [hc] at h; simpa using h
  · rw [hc] at h; exact .inl h
theorem fold_nodup {α : Type} (c : α → Bool) (f : α → Str) : ∀ (l : List α) (a : List Str), a.Nodup → (l.foldl (fun l x => bif c x then addD l (f x) else l) a).Nodup
  | [], a, h => h
  | x :: l, a, h => by
    rw [List.foldl_cons]
    apply fold_nodup c f l
    cases c x
    · exact h
    · exact addD_nodup h
theorem fold_mem {α : Type} (c : α → Bool) (f : α → Str) : ∀ (l : List α) (a : List Str) (y : Str), y ∈ l.foldl (fun l x => bif c x then addD l (f x) else l) a → y ∈ a ∨ ∃ x ∈ l, c x = true ∧ f x = y
  | [], a, y, h => .inl h
  | x :: l, a, y, h => by
    rw [List.foldl_cons] at h
    rcases fold_mem c f l _ y h with h1 | ⟨z, hz, h2⟩
    · cases hc : c x
      · rw [hc] at h1; exact .inl h1
      · rw [hc] at h1
        rcases addD_mem h1 with h3 | h3
        · exact .inl h3
        · exact .inr ⟨x, List.mem_cons_self, hc, h3.symm⟩
    · exact .inr ⟨z, List.mem_cons_of_mem _ hz, h2⟩
theorem possD_nodup (s : GSchema) (n : Str) : (possD s n).Nodup := by
  have h3 := fold_nodup (fun x : GDef => x.kind == 1 && x.faces.contains n) (fun x => x.name) s.defs [] List.nodup_nil
  have h4 := fold_nodup (fun p : Str => kindD s p [1]) (fun p => p) (findD s n).1.parts [] List.nodup_nil
  unfold possD
  cases (findD s n).2 <;> cases (findD s n).1.kind == 1 <;> cases (findD s n).1.kind == 2 <;> cases (findD s n).1.kind == 3 <;> simp only [Bool.not_true, Bool.not_false, cond_true, cond_false] <;> first | exact List.nodup_nil | exact h3 | exact h4 | simp
/-- An object is possible for itself alone. -/
theorem possD_object {s : GSchema} {n : Str} (h : kindD s n [1] = true) : possD s n = [n] := by
  simp only [kindD, Bool.and_eq_true, List.contains_cons, List.contains_nil, Bool.or_false] at h
  unfold possD
  rw [h.1, h.2]; rfl
theorem possD_comp {s : GSchema} {n : Str} (h : possD s n ≠ []) : kindD s n [1, 2, 3] = true ∧ (findD s n).2 = true := by
  unfold possD at h
  simp only [kindD, List.contains_cons, List.contains_nil, Bool.or_false]
  revert h
  cases (findD s n).2 <;> cases (findD s n).1.kind == 1 <;> cases (findD s n).1.kind == 2 <;> cases (findD s n).1.kind == 3 <;> simp
theorem possD_one {s : GSchema} {n x : Str} (hx : x ∈ possD s n) (hk : ((findD s n).1.kind == 2) = false) : possD s x = [x] := by
  have hc := possD_comp (List.ne_nil_of_mem hx)
  unfold possD at hx
  rw [hc.2, hk] at hx
  cases h1 : (findD s n).1.kind == 1
  · rw [h1] at hx
    cases h3 : (findD s n).1.kind == 3
    · rw [h3] at hx; simp at hx
    · rw [h3] at hx
      simp only [Bool.not_true, cond_false, cond_true] at hx
      rcases fold_mem (fun p : Str => kindD s p [1]) (fun p => p) _ _ _ hx with h | ⟨p, _, h4, h5⟩
      · simp at h
      · have h5' : p = x := h5
        subst h5'; exact possD_object h4
  · rw [h1] at hx
    simp only [Bool.not_true, cond_false, cond_true, List.mem_singleton] at hx
    subst hx
    apply possD_object
    simp [kindD, hc.2, beq_iff_eq.1 h1]
theorem nodup_inner (l : List Str) (hl : l.length < 1073741824) (hn : l.Nodup) (k : Nat) (hk : k < l.length) (b : Int → Option (Int ⊕ (Unit ⊕ Unit)))
    (hb : ∀ j : Int, b j = cnd (decide (j < (k : Int))) (bnd (nthI l (k : Int)) fun y => bnd (nthI l j) fun z => cnd (y == z) (some (.inr (.inr ()))) (some (.inl (IntKind.wrap .i64 (j + 1))))) (some (.inr (.inl ())))) :
    tloop b 0 = some (.inl ()) := by
  have := loop_all (b := b) (l.take k) (.inl ()) (by simp; omega) (by rw [hb]; simp [Nat.min_eq_left (Nat.le_of_lt hk)]) (by
    intro j x hx h1 h2 h3
    have hjk : j < k := by
      have := of_decide_eq_true h1
      simp at this; omega
    rw [nthI_nat, List.getElem?_take_of_lt hjk] at h2
    rw [hb]
    have e1 : decide ((j : Int) < (k : Int)) = true := by simp; omega
    simp only [e1, cnd_t, nthI_nat, List.getElem?_eq_getElem hk, bnd_s, h2, h3]
    have hne : (l[k] == x) = false := by
      obtain ⟨hj, hxe⟩ := List.getElem?_eq_some_iff.1 h2
      subst hxe
      simp only [beq_eq_false_iff_ne, ne_eq]
      intro e
      exact List.pairwise_iff_getElem.1 hn j k hj hk hjk e.symm
    rw [hne]; rfl)
  exact this
theorem seinelaw9_DefsPossible_ok (s : GSchema) (n : Str) (h : SOk s) : seinelaw9_DefsPossible s n = some true := by
  apply seinelaw9_DefsPossible_run
  obtain ⟨l, hb⟩ := seinelaw8_Light_ex s h
  have hlen := possD_len s n h
  have hnd := possD_nodup s n
  have round : ∀ (k : Nat) (x : Str) (b : Int → Option (Int ⊕ (Unit ⊕ Unit))), x ∈ possD s n → ((findD s n).2 = true) → (findD s n).1.kind = 2 ∨ (possD s x = [x] ∧ meetsD s n x = true) := by
    intro k x b hx h2
    by_cases hk : (findD s n).1.kind = 2
    · exact .inl hk
    · right
      have h1 := possD_one hx (by simpa using hk)
      refine ⟨h1, ?_⟩
      unfold meetsD
      rw [h1, List.any_eq_true]
      exact ⟨x, hx, by simp⟩
  have L2 : tloop (seinelaw9_DefsPossible_l2T s n (possD s n)) 0 = some (.inl ()) := loop_all (b := seinelaw9_DefsPossible_l2T s n (possD s n)) (possD s n) (.inl ()) (by show (possD s n).length < _; omega) (by simp [seinelaw9_DefsPossible_l2T]) (by
    intro k x hx h1 h2 h3
    have hk : k < (possD s n).length := by have := of_decide_eq_true h1; omega
    have hc := possD_comp (List.ne_nil_of_mem hx)
    have hin : tloop (seinelaw9_DefsPossible_l1T (possD s n) (k : Int)) 0 = some (.inl ()) := nodup_inner (possD s n) hlen hnd k hk _ (fun j => rfl)
    simp only [seinelaw9_DefsPossible_l2T, h1, cnd_t, hin, bnd_s, elim_inl, defs_Find_ok s n h.sm, h2, defs_Possible_ok s x h, hc.2]
    rcases round k x (fun _ => none) hx hc.2 with hf | ⟨hp, hm⟩
    · simp [hf, h3]
    · rw [hp]
      have e0 : nthI [x] 0 = some x := rfl
      simp only [List.length_singleton, e0, bnd_s, defs_Meets_ok s n x h, hm, beq_self_eq_true, Bool.not_true, cnd_f, h3]
      simp [cnd_same])
  simp only [seinelaw9_DefsPossible_B, hb, bnd_s, seinelaw9_awake_ok, defs_Possible_ok s n h, defs_Composite_ok s n h.sm, L2, elim_inl]
  cases hp : possD s n with
  | nil =>
    have e : seinelaw9_DefsPossible_l4T s n [] 0 = some (.inr (.inl ())) := rfl
    rw [tloop_exit e]
    simp [cnd_same]
  | cons x r =>
    have hc := possD_comp (s := s) (n := n) (by rw [hp]; simp)
    rw [hc.1]
    simp [cnd_same]
end Go.Proofs.Ytigiafabnidggaa

/-
  What is asked of the program as a whole.
-/
set_option linter.unusedVariables false
open Go Go.Ev
open Go.ChangeShapes Go.WideShapes Go.ChangeAt Go.RowKit
namespace Go.Proofs.Ytigiafabnidggaa
theorem mixed : Try.prog.follows .mixedOrders = true := by kernel_rfl
theorem names : (Try.prog.funcs.toList.all fun fn => !fn.body.isSome || !(fn.name == "runtime.NumGoroutine")) = true := by kernel_rfl
theorem laid : laidOutB Try.prog = true := by kernel_rfl
theorem pok : POk Try.prog := by
  refine ⟨mixed, fun f fn hf hb => ?_⟩
  have hm : fn ∈ Try.prog.funcs.toList := by
    have := Array.mem_of_getElem? hf
    simpa using this
  have := List.all_eq_true.1 names fn hm
  rw [hb] at this
  simpa using this
theorem xok : ExtOk Try.prog XT := fun f g h => by simp [XT] at h
theorem blOk {H : Type} : BlOk (H := H) Rows.uptoBulk Rows.uptoBulkAll := by
  refine ⟨fun l => ?_, fun s => ?_, ?_, fun es sp => ?_, fun ps => ?_, fun d r => ?_⟩
  · cases l <;> simp [Rows.uptoBulk]
  · simp [Rows.uptoBulk]
  · simp [Rows.uptoBulk]
  · simp only [Rows.uptoBulk]; omega
  · simp only [Rows.uptoBulk]; omega
  · simp [Rows.uptoBulkAll]
theorem own : ownKnob Try.prog.godebug = none := by kernel_rfl
end Go.Proofs.Ytigiafabnidggaa

/-
  DefsSays: of any schema, and any name: its definition, what it may stand for, what is possible, are the page's; the schema stays as it was. Conditions: none beside the row's own (bulk at most 1048576).
-/
set_option linter.unusedVariables false
open Go Go.Ev
open Go.ChangeShapes Go.WideShapes Go.ChangeAt Go.RowKit
namespace Go.Proofs.Ytigiafabnidggaa
namespace defsSays
def fs : Ty := (.fcons (.ext 7) (.fcons .str .fnil))
theorem lawF : ∀ x : fs.den RS, good RS fs x → bulkL RS fs x ≤ 1048576 → OL Try.prog MT XT 6 (encL RS fs x) [] = some (.bool true, []) := by
  rintro ⟨x0, x1, _⟩ g b
  have b' : bkSchema x0 + (bkStr x1 + (0)) ≤ 1048576 := b
  obtain ⟨g0, g1, _⟩ := g
  have g0' : gdSchema x0 := g0
  have g1' : gd1 x1 := g1
  have e : encL RS fs (x0, x1, ()) = [encSchema x0, PV.str x1] := rfl
  rw [e]
  change O 6 _ _ = _
  have h := seinelaw9_DefsSays_spec (seinelaw9_DefsSays_ok x0 x1 (SOk.of (by omega)) (by have := b'; unfold bkStr at this; omega))
  simpa only [tys, seinelaw9_DefsSaysE] using h
theorem contract (H : Type) (enc : TypeId × Value → H) (W : World) (base : Nat) (args : Array Value) (ds gs : List (DataW H)) (before : List MemPlace)
    (hval : ∀ (j : Nat) t v, Try.f6.params[j]? = some t → args[j]? = some v → Value.okWide Try.prog W .any base t v)
    (hW : DataW.Whole enc Try.prog Try.f6.params.toList Rows.defsSaysSpec.vars false W args.toList ds gs before) (hk : Rows.uptoSmall H (ds ++ gs) = true) :
    Calls Try.prog 6 args W fun e W' => ∃ v, e = .returned v ∧ Rows.defsSaysSpec.post enc Try.prog Try.f6 false true false false W args v W' := by
  have hg : gs = [] := by
    obtain ⟨p, q, hA, hV, _⟩ := hW
    exact (trodVars_none hV).1
  have hb : Rows.uptoBulkAll ds ≤ 1048576 := by
    have := of_decide_eq_true hk
    simpa [hg] using this
  have hlen : ds.length = 2 := by
    obtain ⟨p, q, hA0, hV, _⟩ := hW
    have hA : DataW.TrodAll enc Try.prog W 0 (fun _ => true) true Try.f6.params.toList args.toList ds p := hA0
    rw [Try.params6] at hA
    obtain ⟨v0, vs0, d0, ds0, p0, q0, h0, rfl, rfl, ht0, r0⟩ := trodAll_cons hA
    obtain ⟨v1, vs1, d1, ds1, p1, q1, h1, rfl, rfl, ht1, r1⟩ := trodAll_cons r0
    obtain ⟨rfl, rfl, rfl⟩ := trodAll_nil r1
    rfl
  refine contract_true pok xok laid blOk Try.func6 rfl (n := 9) (ρ := RS) (τ := TS) (fs := fs) (tb := 4) (by kernel_rfl) (by rw [show Try.f6.resultTypes = #[4] from rfl]) Try.underlying4 rfl (rok enc W blOk) ?_ hval hW hb lawF
  subst hg
  match ds, hlen with
  | [d0, d1], _ => exact ⟨rfl, rfl, rfl⟩
set_option maxRecDepth 100000 in
theorem lifted (os : Os) (started : os.Started) (H : Type) (enc : TypeId × Value → H) (F : Stop.Interp) :
    ReturnsInHanded {} Try.checked os 6 .any ((Rows.OpenSpec.upto Rows.defsSaysSpec).pre6 enc Try.prog Try.f6 Rows.defsSaysUptoRow.domain false) (((Rows.OpenSpec.upto Rows.defsSaysSpec).at F).post enc Try.prog Try.f6 false true false false) := by
  refine returnsInHanded_of_cond (C := Try.checked) (s := Rows.OpenSpec.upto Rows.defsSaysSpec) (k := Rows.uptoSmall) rfl own started (by kernel_rfl) Try.func6
    (OpenSpec.witness (enc := enc) (C := Try.checked) (s := Rows.OpenSpec.upto Rows.defsSaysSpec) (k := Rows.uptoSmall) rfl false ⟨#[], #[.agg #[.slice none 0 0, .string ⟨#[]⟩, .string ⟨#[]⟩], .string ⟨#[]⟩], []⟩ 8 (by kernel_rfl) (by kernel_rfl) (by kernel_rfl)
      (x := ([.agg [.nil, .lit (.string []), .lit (.string [])], .lit (.string [])], [], [])) (by kernel_rfl) rfl (by kernel_rfl)) ?_
  intro W base args ds gs before hval hW _ hk _
  exact contract H enc W base args ds gs before hval hW hk
theorem over : Rows.defsSaysUptoRow.holds Try.pinned (Rows.OpenSpec.upto Rows.defsSaysSpec) :=
  OpenClaim.holds_of_cond 6 Try.f6 rfl rfl rfl rfl rfl rfl rfl ⟨rfl, rfl, rfl, rfl, rfl⟩ rfl rfl rfl rfl rfl (by kernel_rfl) Try.func6 (by kernel_rfl)
    (of_decide_eq_true (by kernel_rfl)) (by unfold Func.isWrapper; first | (rw [if_pos (by decide +kernel)]; kernel_rfl) | (rw [if_neg (by decide +kernel)]; exact ⟨rfl, rfl⟩))
    (fun os started H enc _ F => lifted os started H enc F)
theorem proved : Rows.DefsSaysUptoSaid :=
  over
end defsSays
end Go.Proofs.Ytigiafabnidggaa
