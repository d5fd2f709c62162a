/-
  VarsUses: the names of variables that selections use, and what they reach, are the page's, in order. Conditions: none beside the row's own (bulk at most 1048576).
-/
import Derived.Test.YtphmfillajagdaaGc
import Derived.Test.YtphmfillajagdaaEd
import Derived.KernelRfl
import Derived.Test.YtphmfillajagdaaGa
import Derived.Test.YtphmfillajagdaaRows
import Derived.WalkKit
import Derived.ProofKit
import Derived.OpenShut
import Derived.JoinedCond
set_option linter.unusedVariables false
set_option linter.unusedSimpArgs false
/-
  Names: the program's and the reference's are alike.
-/
set_option linter.unusedVariables false
set_option linter.unusedSimpArgs false
open Go Go.Ev
namespace Go.Proofs.Ytphmfillajagdaa

def letter (c : Int) : Bool := (decide (97 ≤ c) && decide (c ≤ 122)) || ((decide (65 ≤ c) && decide (c ≤ 90)) || c == 95)
def digit (c : Int) : Bool := decide (48 ≤ c) && decide (c ≤ 57)
/-- All of these may stand behind a name's first sign. -/
def inName (c : UInt8) : Bool := letter c.toNat || digit c.toNat
def isName : Str → Bool
  | [] => false
  | c :: s => letter c.toNat && s.all inName
end Go.Proofs.Ytphmfillajagdaa

/-
  Sizes of values.
-/
set_option linter.unusedVariables false
set_option linter.unusedSimpArgs false
open Go Go.Ev
namespace Go.Proofs.Ytphmfillajagdaa

/-! sizes -/
mutual
def szV : GValue → Nat
  | ⟨_, _, s, l, m⟩ => 1 + s.length + szVs l + szMs m
def szVs : List GValue → Nat
  | [] => 0
  | x :: l => szV x + szVs l
def szM : GMember → Nat
  | ⟨n, v⟩ => n.length + szV v
def szMs : List GMember → Nat
  | [] => 0
  | x :: l => szM x + szMs l
end
theorem szV_eq (v : GValue) : szV v = 1 + v.s.length + szVs v.l + szMs v.m := by cases v; simp only [szV]
theorem szM_eq (x : GMember) : szM x = x.name.length + szV x.v := by cases x; simp only [szM]
theorem szVs_mem {x : GValue} : ∀ {l : List GValue}, x ∈ l → szV x ≤ szVs l
  | a :: l, h => by
    simp only [szVs]
    rcases List.mem_cons.1 h with rfl | h
    · omega
    · have := szVs_mem h; omega
theorem szMs_mem {x : GMember} : ∀ {l : List GMember}, x ∈ l → szM x ≤ szMs l
  | a :: l, h => by
    simp only [szMs]
    rcases List.mem_cons.1 h with rfl | h
    · omega
    · have := szMs_mem h; omega
theorem szVs_len : ∀ (l : List GValue), l.length ≤ szVs l
  | [] => by simp [szVs]
  | a :: l => by have := szVs_len l; have := szV_eq a; simp only [szVs, List.length_cons]; omega
theorem szMs_len : ∀ (l : List GMember), l.length ≤ szMs l
  | [] => by simp [szMs]
  | a :: l => by have := szMs_len l; have := szM_eq a; have := szV_eq a.v; simp only [szMs, List.length_cons]; omega
theorem szVs_app : ∀ (l m : List GValue), szVs (l ++ m) = szVs l + szVs m
  | [], m => by simp [szVs]
  | a :: l, m => by simp only [List.cons_append, szVs, szVs_app l m]; omega
theorem seinekeep_Size_ok' : ∀ (n : Nat), n < 4611686018427387904 → ∀ v : GValue, szV v ≤ n → seinekeep_Size v = some (szV v : Int) := by
  intro n
  induction n with
  | zero => intro _ v h; have := szV_eq v; omega
  | succ n ih =>
    intro hn v h
    have hv := szV_eq v
    have hl := szVs_len v.l
    have hm := szMs_len v.m
    apply seinekeep_Size_run
    unfold seinekeep_Size_B
    have k1 := tloop_list (b := seinekeep_Size_l1T v) v.l (fun k (a : Nat) => ((a : Int), (k : Int))) (fun r a => ((a + szVs r : Nat) : Int)) (fun k a => a + szVs (v.l.drop k) ≤ 1 + v.s.length + szVs v.l)
      (by
        intro a _
        simp [seinekeep_Size_l1T, szVs])
      (by
        intro k x r a hk hx hd hI
        have hxm : x ∈ v.l := List.mem_of_getElem? hx
        have h1 := szVs_mem hxm
        have h2 := ih (by omega) x (by omega)
        rw [hd] at hI
        simp only [szVs] at hI
        have e1 : (decide ((k : Int) < (List.length v.l : Int))) = true := by simp; omega
        have e3 : IntKind.wrap .i64 ((k : Int) + 1) = ((k + 1 : Nat) : Int) := wadd (by omega)
        have e4 : IntKind.wrap .i64 ((a : Int) + (szV x : Int)) = ((a + szV x : Nat) : Int) := by rw [wi (by omega)]; omega
        refine .inr ⟨a + szV x, ?_, ?_, ?_⟩
        · simp only [seinekeep_Size_l1T, e1, cnd_t, nthI_nat, hx, bnd_s, h2, e3, e4]
        · have : v.l.drop (k + 1) = r := by rw [← List.tail_drop, hd]; rfl
          rw [this]; omega
        · simp only [szVs, Nat.add_assoc])
    have k2 := tloop_list (b := seinekeep_Size_l2T v) v.m (fun k (a : Nat) => ((a : Int), (k : Int))) (fun r a => ((a + szMs r : Nat) : Int)) (fun k a => a + szMs (v.m.drop k) ≤ 1 + v.s.length + szVs v.l + szMs v.m)
      (by
        intro a _
        simp [seinekeep_Size_l2T, szMs])
      (by
        intro k x r a hk hx hd hI
        have hxm : x ∈ v.m := List.mem_of_getElem? hx
        have h1 := szMs_mem hxm
        have h1' := szM_eq x
        have h2 := ih (by omega) x.v (by omega)
        rw [hd] at hI
        simp only [szMs] at hI
        have e1 : (decide ((k : Int) < (List.length v.m : Int))) = true := by simp; omega
        have e3 : IntKind.wrap .i64 ((k : Int) + 1) = ((k + 1 : Nat) : Int) := wadd (by omega)
        have e5 : IntKind.wrap .i64 ((a : Int) + (x.name.length : Int)) = ((a + x.name.length : Nat) : Int) := by rw [wi (by omega)]; omega
        have e4 : IntKind.wrap .i64 (((a + x.name.length : Nat) : Int) + (szV x.v : Int)) = ((a + szM x : Nat) : Int) := by rw [wi (by omega)]; omega
        refine .inr ⟨a + szM x, ?_, ?_, ?_⟩
        · simp only [seinekeep_Size_l2T, e1, cnd_t, nthI_nat, hx, bnd_s, h2, e3, e4, e5]
        · have : v.m.drop (k + 1) = r := by rw [← List.tail_drop, hd]; rfl
          rw [this]; omega
        · simp only [szMs, Nat.add_assoc])
    have e0 : IntKind.wrap .i64 (1 + (v.s.length : Int)) = ((1 + v.s.length : Nat) : Int) := by rw [wi (by omega)]; omega
    rw [e0, show (0 : Int) = ((0 : Nat) : Int) from rfl, k1 0 (1 + v.s.length) (by omega) (by simp)]
    simp only [List.drop_zero, bnd_s]
    rw [k2 0 (1 + v.s.length + szVs v.l) (by omega) (by simp)]
    simp only [List.drop_zero, bnd_s, hv]
theorem seinekeep_Size_ok (v : GValue) (h : szV v < 4611686018427387904) : seinekeep_Size v = some (szV v : Int) := seinekeep_Size_ok' _ h v (Nat.le_refl _)
mutual
theorem szV_bk : ∀ v : GValue, szV v ≤ bkValue v
  | ⟨_, _, s, l, m⟩ => by
    have h1 := szVs_bk l
    have h2 := szMs_bk m
    simp only [szV, bkValue, bk1, bkStr]; omega
theorem szVs_bk : ∀ l : List GValue, szVs l ≤ bkValues l
  | [] => by simp [szVs]
  | x :: l => by have := szV_bk x; have := szVs_bk l; simp only [szVs, bkValues]; omega
theorem szM_bk : ∀ x : GMember, szM x ≤ bkMember x
  | ⟨n, v⟩ => by have := szV_bk v; simp only [szM, bkMember, bkStr]; omega
theorem szMs_bk : ∀ l : List GMember, szMs l ≤ bkMembers l
  | [] => by simp [szMs]
  | x :: l => by have := szM_bk x; have := szMs_bk l; simp only [szMs, bkMembers]; omega
end
end Go.Proofs.Ytphmfillajagdaa

/-
  A value is the same as itself.
-/
set_option linter.unusedVariables false
set_option linter.unusedSimpArgs false
open Go Go.Ev
namespace Go.Proofs.Ytphmfillajagdaa

/-! a value is the same as itself -/
end Go.Proofs.Ytphmfillajagdaa

/-
  Layer 4, wrap: the typed functions as plain ones.
-/
set_option linter.unusedVariables false
set_option linter.unusedSimpArgs false
open Go Go.Ev
namespace Go.Proofs.Ytphmfillajagdaa

/-- Numbers as the model holds them, a name that is not endless. -/
def TOk (t : GType) : Prop := (-9223372036854775808 ≤ t.lists ∧ t.lists ≤ 9223372036854775807) ∧ (-9223372036854775808 ≤ t.musts ∧ t.musts ≤ 9223372036854775807) ∧ t.name.length < 4611686018427387904
def rightT (t : GType) : Bool := isName t.name && (decide (0 ≤ t.lists) && (decide (t.lists ≤ 4) && (decide (0 ≤ t.musts) && decide (t.musts < 2 ^ (t.lists.toNat + 1)))))
theorem rightT_iff (t : GType) : rightT t = true ↔ isName t.name = true ∧ 0 ≤ t.lists ∧ t.lists ≤ 4 ∧ 0 ≤ t.musts ∧ t.musts < 2 ^ (t.lists.toNat + 1) := by
  simp [rightT]
def bit0 (n : Int) : Bool := bits .and .i64 n 1 == 1
def isT (t : GType) : Bool := rightT t && bit0 t.musts
def bareT (t : GType) : GType := bif rightT t then ⟨t.name, t.lists, bits .andNot .i64 t.musts 1⟩ else t
def mustT (t : GType) : GType := bif rightT t then ⟨t.name, t.lists, bits .or .i64 t.musts 1⟩ else t
def subT (a b : GType) : Bool := rightT a && (rightT b && (a.name == b.name && (a.lists == b.lists && bits .andNot .i64 b.musts a.musts == 0)))
theorem bits_range (op : BinOp) (a b : Int) : -9223372036854775808 ≤ bits op .i64 a b ∧ bits op .i64 a b ≤ 9223372036854775807 := by
  have key : ∀ n : Int, -9223372036854775808 ≤ IntKind.wrap .i64 n ∧ IntKind.wrap .i64 n ≤ 9223372036854775807 := by
    intro n; rw [IntKind.wrap_i64]; omega
  unfold bits
  cases op <;> exact key _
theorem TOk.bare {t : GType} (h : TOk t) : TOk (bareT t) := by
  unfold bareT
  cases rightT t
  · exact h
  · show TOk ⟨t.name, t.lists, bits .andNot .i64 t.musts 1⟩
    exact ⟨h.1, bits_range .andNot t.musts 1, h.2.2⟩
theorem TOk.must {t : GType} (h : TOk t) : TOk (mustT t) := by
  unfold mustT
  cases rightT t
  · exact h
  · show TOk ⟨t.name, t.lists, bits .or .i64 t.musts 1⟩
    exact ⟨h.1, bits_range .or t.musts 1, h.2.2⟩

theorem small_bits : ∀ (l : Fin 5) (m : Fin 32), m.val < 2 ^ (l.val + 1) →
    (0 ≤ bits .or .i64 (m.val : Int) 1 ∧ bits .or .i64 (m.val : Int) 1 < 2 ^ (l.val + 1)) ∧ (0 ≤ bits .andNot .i64 (m.val : Int) 1 ∧ bits .andNot .i64 (m.val : Int) 1 < 2 ^ (l.val + 1)) ∧
    bit0 (bits .or .i64 (m.val : Int) 1) = true ∧ bits .andNot .i64 (bits .andNot .i64 (m.val : Int) 1) (bits .or .i64 (m.val : Int) 1) = 0 ∧
    bits .andNot .i64 (m.val : Int) (m.val : Int) = 0 ∧ bits .andNot .i64 (bits .or .i64 (m.val : Int) 1) (bits .or .i64 (m.val : Int) 1) = 0 := by decide +kernel
theorem right_bits {t : GType} (h : rightT t = true) : rightT ⟨t.name, t.lists, bits .or .i64 t.musts 1⟩ = true ∧ rightT ⟨t.name, t.lists, bits .andNot .i64 t.musts 1⟩ = true ∧ bit0 (bits .or .i64 t.musts 1) = true ∧
    bits .andNot .i64 (bits .andNot .i64 t.musts 1) (bits .or .i64 t.musts 1) = 0 ∧ bits .andNot .i64 t.musts t.musts = 0 ∧ bits .andNot .i64 (bits .or .i64 t.musts 1) (bits .or .i64 t.musts 1) = 0 := by
  obtain ⟨h1, h2, h3, h4, h5⟩ := (rightT_iff t).1 h
  obtain ⟨l, hl⟩ := Int.eq_ofNat_of_zero_le h2
  obtain ⟨m, hm⟩ := Int.eq_ofNat_of_zero_le h4
  rw [hl] at h3 h5
  rw [hm] at h5
  simp only [Int.toNat_natCast] at h5
  have h5' : m < 2 ^ (l + 1) := by exact_mod_cast h5
  have hl5 : l < 5 := by omega
  have hm5 : m < 32 := Nat.lt_of_lt_of_le h5' (by
    have : 2 ^ (l + 1) ≤ 2 ^ 5 := Nat.pow_le_pow_right (by decide) (by omega)
    exact this)
  obtain ⟨k1, k2, k3, k4, k5, k6⟩ := small_bits ⟨l, hl5⟩ ⟨m, hm5⟩ h5'
  simp only at k1 k2 k3 k4 k5 k6
  simp only [rightT_iff, hl, hm, Int.toNat_natCast]
  exact ⟨⟨h1, by omega, by omega, k1⟩, ⟨h1, by omega, by omega, k2⟩, k3, k4, k5, k6⟩
end Go.Proofs.Ytphmfillajagdaa

/-
  Lists of texts and of numbers.
-/
set_option linter.unusedVariables false
set_option linter.unusedSimpArgs false
open Go Go.Ev
namespace Go.Proofs.Ytphmfillajagdaa

/-! lists of texts, of numbers -/
theorem slices_Index_string_ok (l : List Str) (v : Str) (hl : Sm l) : ∃ i, slices_Index_string_string l v = some i ∧ decide (i ≥ 0) = l.contains v := by
  have key := loop_list (b := slices_Index_string_string_l1T l v) l (fun k (_ : Nat) => (k : Int)) (fun r k => match r.findIdx? (fun y => v == y) with | some j => Sum.inr ((k + j : Nat) : Int) | none => Sum.inl ()) (fun k a => a = k) hl
    (by intro a _; simp [slices_Index_string_string_l1T])
    (by
      intro k x r a hm hk hd h1 h2 h3 hI
      subst hI
      simp only [slices_Index_string_string_l1T, h1, cnd_t, h2, bnd_s, h3, List.findIdx?_cons]
      cases hv : v == x
      · refine .inr ⟨a + 1, rfl, rfl, ?_⟩
        simp only [Bool.false_eq_true, if_false]
        cases r.findIdx? (fun y => v == y) with
        | none => rfl
        | some j => simp only [Option.map_some]; congr 2; omega
      · left; simp) (s := 0) (a := 0) rfl rfl
  have hrun : ∀ i, slices_Index_string_string_B l v = some i → slices_Index_string_string l v = some i := fun i h => slices_Index_string_string_run h
  unfold slices_Index_string_string_B at hrun
  rw [key] at hrun
  simp only [bnd_s, Nat.zero_add] at hrun
  have hc : l.contains v = (l.findIdx? (fun y => v == y)).isSome := by
    rw [List.findIdx?_isSome, List.contains_eq_any_beq]
  cases hf : l.findIdx? (fun y => v == y) with
  | none => rw [hf] at hrun hc; exact ⟨-1, hrun _ rfl, by rw [hc]; rfl⟩
  | some j => rw [hf] at hrun hc; exact ⟨(j : Int), hrun _ rfl, by rw [hc]; simp⟩
theorem slices_Contains_string_ok (l : List Str) (v : Str) (hl : Sm l) : slices_Contains_string_string l v = some (l.contains v) := by
  obtain ⟨i, h1, h2⟩ := slices_Index_string_ok l v hl
  apply slices_Contains_string_string_run
  simp only [slices_Contains_string_string_B, h1, bnd_s, h2]
theorem seineref1_Has_ok (l : List Str) (v : Str) (hl : Sm l) : seineref1_Has l v = some (l.contains v) := by
  apply seineref1_Has_run
  unfold seineref1_Has_B
  rw [loop_idx (b := seineref1_Has_l1T l v) l (fun r => bif r.contains v then .inr () else .inl ()) hl (by simp [seineref1_Has_l1T]) (by
    intro k x r hm h1 h2 h3
    simp only [seineref1_Has_l1T, h1, cnd_t, h2, bnd_s, h3, List.contains_cons]
    rw [BEq.comm (a := x) (b := v)]
    cases v == x
    · right; simp
    · left; simp)]
  cases l.contains v <;> rfl

theorem find_some {α : Type} (l : List α) (p : α → Bool) {β : Type} (g : α → β) : l.findSome? (fun x => if p x then some (g x) else none) = (l.find? p).map g := by
  induction l with
  | nil => rfl
  | cons a l ih =>
    rw [List.findSome?_cons, List.find?_cons]
    cases p a with
    | true => rfl
    | false => exact ih
def addD (l : List Str) (n : Str) : List Str := bif l.contains n then l else l ++ [n]
theorem addD_len (l : List Str) (n : Str) : (addD l n).length ≤ l.length + 1 := by
  unfold addD; cases l.contains n <;> simp
theorem addD_nodup {l : List Str} {n : Str} (h : l.Nodup) : (addD l n).Nodup := by
  unfold addD
  cases hc : l.contains n
  · simp only [cond_false]
    have hm : n ∉ l := by simpa using hc
    exact List.nodup_append.2 ⟨h, by simp, fun a ha b hb => by simp at hb; subst hb; exact fun e => hm (e ▸ ha)⟩
  · exact h
theorem addD_mem {l : List Str} {n x : Str} (h : x ∈ addD l n) : x ∈ l ∨ x = n := by
  unfold addD at h
  cases hc : l.contains n
  · rw [hc] at h; simpa using h
  · rw [hc] at h; exact .inl h
end Go.Proofs.Ytphmfillajagdaa

/-
  Layer 9, defs: the typed functions of the program and of the reference as plain ones.
-/
set_option linter.unusedVariables false
set_option linter.unusedSimpArgs false
open Go Go.Ev
namespace Go.Proofs.Ytphmfillajagdaa

/-! definitions -/
abbrev zDef : GDef := ⟨0, [], [], [], [], []⟩
def scalarN (n : Str) : Bool := n == [73, 110, 116] || (n == [83, 116, 114, 105, 110, 103] || (n == [66, 111, 111, 108, 101, 97, 110] || n == [73, 68]))
def findD (s : GSchema) (n : Str) : GDef × Bool := bif scalarN n then (⟨0, n, [], [], [], []⟩, true) else match s.defs.find? (fun d => d.name == n) with | some d => (d, true) | none => (zDef, false)
def kindD (s : GSchema) (n : Str) (ks : List Int) : Bool := (findD s n).2 && ks.contains (findD s n).1.kind
theorem kindD_two (s : GSchema) (n : Str) (a b : Int) : kindD s n [a, b, b] = kindD s n [a, b] := by
  simp only [kindD, List.contains_cons, List.contains_nil, Bool.or_false, Bool.or_self]
theorem kindD_one (s : GSchema) (n : Str) (a : Int) : kindD s n [a, a, a] = kindD s n [a] := by
  simp only [kindD, List.contains_cons, List.contains_nil, Bool.or_false, Bool.or_self]
/-! what is possible -/
def possD (s : GSchema) (n : Str) : List Str :=
  bif !(findD s n).2 then [] else bif (findD s n).1.kind == 1 then [n] else
  bif (findD s n).1.kind == 2 then s.defs.foldl (fun l x => bif x.kind == 1 && x.faces.contains n then addD l x.name else l) [] else
  bif (findD s n).1.kind == 3 then (findD s n).1.parts.foldl (fun l p => bif kindD s p [1] then addD l p else l) [] else []
/-- Short enough. -/
structure SOk (s : GSchema) : Prop where
  bk : bkSchema s < 1073741824
theorem bkDef_pos (d : GDef) : 1 ≤ bkDef d := by rw [bkDef_eq]; omega
theorem bkFieldDef_pos (d : GFieldDef) : 1 ≤ bkFieldDef d := by rw [bkFieldDef_eq]; omega
theorem bkParam_pos (d : GParam) : 1 ≤ bkParam d := by rw [bkParam_eq]; omega
theorem bkDir_pos (d : GDir) : 1 ≤ bkDir d := by rw [bkDir_eq]; omega
theorem bkMember_pos (d : GMember) : 1 ≤ bkMember d := by rw [bkMember_eq]; omega
theorem SOk.defs {s : GSchema} (h : SOk s) : s.defs.length < 1073741824 := by
  have h1 := h.bk; rw [bkSchema_eq] at h1
  have h2 := sl_len bkDef_pos s.defs
  omega
theorem SOk.def_bk {s : GSchema} (h : SOk s) {d : GDef} (hd : d ∈ s.defs) : bkDef d < 1073741824 := by
  have h1 := h.bk; rw [bkSchema_eq] at h1
  have h2 := sl_mem (f := bkDef) hd
  omega
theorem SOk.faces {s : GSchema} (h : SOk s) (d : GDef) (hd : d ∈ s.defs) : d.faces.length < 1073741824 := by
  have h1 := h.def_bk hd; rw [bkDef_eq] at h1
  have h2 := sl_len bkStr_pos d.faces
  omega
theorem SOk.parts {s : GSchema} (h : SOk s) (d : GDef) (hd : d ∈ s.defs) : d.parts.length < 1073741824 := by
  have h1 := h.def_bk hd; rw [bkDef_eq] at h1
  have h2 := sl_len bkStr_pos d.parts
  omega
theorem SOk.fields {s : GSchema} (h : SOk s) (d : GDef) (hd : d ∈ s.defs) : d.fields.length < 1073741824 := by
  have h1 := h.def_bk hd; rw [bkDef_eq] at h1
  have h2 := sl_len bkFieldDef_pos d.fields
  omega
theorem SOk.sm {s : GSchema} (h : SOk s) : Sm s.defs := by have := h.defs; show s.defs.length < _; omega
theorem findD_mem (s : GSchema) (n : Str) : (findD s n).1 ∈ s.defs ∨ ((findD s n).1.faces = [] ∧ (findD s n).1.fields = [] ∧ (findD s n).1.parts = [] ∧ (findD s n).1.params = []) := by
  unfold findD
  cases scalarN n
  · simp only [cond_false]
    cases h : s.defs.find? (fun d => d.name == n) with
    | none => exact .inr ⟨rfl, rfl, rfl, rfl⟩
    | some d => exact .inl (List.mem_of_find?_eq_some h)
  · exact .inr ⟨rfl, rfl, rfl, rfl⟩
theorem SOk.partsF {s : GSchema} (h : SOk s) (n : Str) : (findD s n).1.parts.length < 1073741824 := by
  rcases findD_mem s n with hm | ⟨_, _, hp, _⟩
  · exact h.parts _ hm
  · rw [hp]; decide
theorem SOk.fieldsF {s : GSchema} (h : SOk s) (n : Str) : (findD s n).1.fields.length < 1073741824 := by
  rcases findD_mem s n with hm | ⟨_, hp, _, _⟩
  · exact h.fields _ hm
  · rw [hp]; decide
end Go.Proofs.Ytphmfillajagdaa

/-
  Layer 9, defs: fields, meeting; copies and likenesses of schemas.
-/
set_option linter.unusedVariables false
set_option linter.unusedSimpArgs false
open Go Go.Ev
namespace Go.Proofs.Ytphmfillajagdaa

abbrev zF : GFieldDef := ⟨[], [], ⟨[], 0, 0⟩, []⟩
abbrev tnS : Str := [95, 95, 116, 121, 112, 101, 110, 97, 109, 101]
abbrev tnF : GFieldDef := ⟨tnS, [], ⟨[83, 116, 114, 105, 110, 103], 0, 1⟩, []⟩
def fieldD (s : GSchema) (typ name : Str) : GFieldDef × Bool :=
  bif name == tnS && kindD s typ [1, 2, 3] then (tnF, true) else bif (findD s typ).1.kind == 1 || (findD s typ).1.kind == 2 then (match (findD s typ).1.fields.find? (fun f => f.name == name) with | some f => (f, true) | none => (zF, false)) else (zF, false)
theorem findD_none {s : GSchema} {n : Str} (h : (findD s n).2 = false) : (findD s n).1 = zDef := by
  revert h
  unfold findD
  cases scalarN n
  · simp only [cond_false]
    cases hf : s.defs.find? (fun d => d.name == n) with
    | none => intro _; rfl
    | some d => intro h; simp at h
  · intro h; simp at h
theorem fieldEta (f : GFieldDef) : (⟨f.name, f.params, ⟨f.t.name, f.t.lists, f.t.musts⟩, f.dirs⟩ : GFieldDef) = f := rfl
/-! meeting -/
theorem foldl_add_len {α : Type} (c : α → Bool) (f : α → Str) : ∀ (l : List α) (a : List Str), (l.foldl (fun l x => bif c x then addD l (f x) else l) a).length ≤ a.length + l.length
  | [], a => by simp
  | x :: l, a => by
    have := foldl_add_len c f l (bif c x then addD a (f x) else a)
    have h2 := addD_len a (f x)
    rw [List.foldl_cons, List.length_cons]
    cases hc : c x <;> rw [hc] at this <;> simp only [cond_true, cond_false] at this ⊢ <;> omega
theorem possD_len (s : GSchema) (n : Str) (h : SOk s) : (possD s n).length < 1073741824 := by
  have h1 := h.defs
  have h2 := h.partsF n
  have h3 := foldl_add_len (fun x : GDef => x.kind == 1 && x.faces.contains n) (fun x => x.name) s.defs []
  have h4 := foldl_add_len (fun p : Str => kindD s p [1]) (fun p => p) (findD s n).1.parts []
  simp only [List.length_nil, Nat.zero_add] at h3 h4
  unfold possD
  cases (findD s n).2 <;> cases (findD s n).1.kind == 1 <;> cases (findD s n).1.kind == 2 <;> cases (findD s n).1.kind == 3 <;> simp only [Bool.not_true, Bool.not_false, cond_true, cond_false, List.length_nil, List.length_singleton] <;> omega
def meetsD (s : GSchema) (a b : Str) : Bool := (possD s a).any fun x => (possD s b).contains x
theorem meetsD_comm (s : GSchema) (a b : Str) : meetsD s a b = meetsD s b a := by
  unfold meetsD
  rw [Bool.eq_iff_iff]
  simp only [List.any_eq_true, List.contains_iff_mem]
  constructor <;> rintro ⟨x, h1, h2⟩ <;> exact ⟨x, h2, h1⟩
theorem meetsD_self (s : GSchema) (a : Str) : meetsD s a a = decide (((possD s a).length : Int) > 0) := by
  unfold meetsD
  cases h : possD s a with
  | nil => rfl
  | cons x l => simp
end Go.Proofs.Ytphmfillajagdaa

/-
  Copies are what they are copies of; what is like is like itself; how light a schema is, is told.
-/
set_option linter.unusedVariables false
set_option linter.unusedSimpArgs false
open Go Go.Ev
namespace Go.Proofs.Ytphmfillajagdaa

/-! copies -/
theorem tapp_nil {α : Type} (l : List α) (h : l.length < 1073741824) : tapp ([] : List α) l = some l := by
  rw [tapp_ok (by simp [lim_val]; omega)]; rfl
theorem szV_mem_bk {m : List GMember} (h : bkSl bkMember m < 1073741824) {x : GMember} (hx : x ∈ m) : szV x.v < 1073741824 := by
  have h1 := sl_mem (f := bkMember) hx
  have h2 := szM_bk x
  have h3 := szM_eq x
  omega
/-! likenesses -/
theorem seinekeep_SameTexts_self (l : List Str) (h : l.length < 1073741824) : seinekeep_SameTexts l l = some true := by
  apply seinekeep_SameTexts_run
  unfold seinekeep_SameTexts_B
  rw [loop_all (b := seinekeep_SameTexts_l1T l l) l (.inl ()) (by show l.length < _; omega) (by simp [seinekeep_SameTexts_l1T]) (by
    intro k x hx h1 h2 h3
    simp only [seinekeep_SameTexts_l1T, h1, cnd_t, h2, bnd_s, h3, beq_self_eq_true, Bool.not_true, cnd_f])]
  simp
/-! how light -/
end Go.Proofs.Ytphmfillajagdaa

/-
  Layer 13, graph: which fragments are spread, which are reached.
-/
set_option linter.unusedVariables false
set_option linter.unusedSimpArgs false
open Go Go.Ev
namespace Go.Proofs.Ytphmfillajagdaa

mutual
def namesS1 : GSel → List Str
  | ⟨k, _, n, _, _, _, l⟩ => (bif k == 1 then [n] else []) ++ namesS l
def namesS : List GSel → List Str
  | [] => []
  | x :: l => namesS1 x ++ namesS l
end
theorem namesS1_eq (x : GSel) : namesS1 x = (bif x.kind == 1 then [x.name] else []) ++ namesS x.sels := by cases x; simp only [namesS1]
theorem namesS_append : ∀ l m : List GSel, namesS (l ++ m) = namesS l ++ namesS m
  | [], m => rfl
  | x :: l, m => by simp only [List.cons_append, namesS, namesS_append l m, List.append_assoc]
mutual
theorem namesS1_bk : ∀ x : GSel, (namesS1 x).length ≤ bkSel x
  | ⟨k, a, n, ar, di, o, l⟩ => by
    have h := namesS_bk l
    simp only [namesS1, bkSel, List.length_append]
    cases k == 1 <;> simp only [cond_true, cond_false, List.length_singleton, List.length_nil, bk1] <;> omega
theorem namesS_bk : ∀ l : List GSel, (namesS l).length ≤ bkSels l
  | [] => by simp [namesS]
  | x :: l => by have := namesS1_bk x; have := namesS_bk l; simp only [namesS, bkSels, List.length_append]; omega
end
theorem bkSels_mem {x : GSel} {l : List GSel} (h : x ∈ l) : bkSel x ≤ bkSels l := by rw [bkSels_eq]; exact sumL_mem bkSel h
theorem bkSel_sels (x : GSel) : bkSels x.sels + 1 ≤ bkSel x := by rw [bkSel_eq, bkSels_eq]; simp only [bkSl]; omega
theorem bkSel_pos (x : GSel) : 1 ≤ bkSel x := by rw [bkSel_eq]; omega
theorem bkSels_len (l : List GSel) : l.length ≤ bkSels l := by rw [bkSels_eq]; exact sumL_len bkSel bkSel_pos l
theorem foldA_len : ∀ (ns l : List Str), (ns.foldl addD l).length ≤ l.length + ns.length
  | [], l => by simp
  | n :: ns, l => by have := foldA_len ns (addD l n); have := addD_len l n; rw [List.foldl_cons, List.length_cons]; omega
theorem foldA_nodup : ∀ (ns l : List Str), l.Nodup → (ns.foldl addD l).Nodup
  | [], l, h => h
  | n :: ns, l, h => foldA_nodup ns _ (addD_nodup h)
theorem addD_sub (l : List Str) (n x : Str) : x ∈ addD l n ↔ x ∈ l ∨ x = n := by
  constructor
  · exact addD_mem
  · unfold addD
    cases hc : l.contains n
    · intro h; simpa using h
    · rintro (h | h)
      · exact h
      · subst h; simpa using hc
theorem foldA_mem : ∀ (ns l : List Str) (x : Str), x ∈ ns.foldl addD l ↔ x ∈ l ∨ x ∈ ns
  | [], l, x => by simp
  | n :: ns, l, x => by rw [List.foldl_cons, foldA_mem ns, addD_sub, List.mem_cons]; exact or_assoc
theorem addD_prefix (l : List Str) (n : Str) : ∃ t, addD l n = l ++ t := by
  unfold addD; cases l.contains n
  · exact ⟨[n], rfl⟩
  · exact ⟨[], by simp⟩
theorem foldA_prefix : ∀ (ns l : List Str), ∃ t, ns.foldl addD l = l ++ t
  | [], l => ⟨[], by simp⟩
  | n :: ns, l => by
    obtain ⟨t, ht⟩ := addD_prefix l n
    obtain ⟨u, hu⟩ := foldA_prefix ns (addD l n)
    exact ⟨t ++ u, by rw [List.foldl_cons, hu, ht, List.append_assoc]⟩
theorem graph_spreads_ok' : ∀ (n : Nat), ∀ (sels : List GSel) (l : List Str), bkSels sels ≤ n → l.length + bkSels sels < 1073741824 → graph_spreads l sels = some ((namesS sels).foldl addD l) := by
  intro n
  induction n with
  | zero =>
    intro sels l h hl
    have := bkSels_len sels
    have hs : sels = [] := List.length_eq_zero_iff.1 (by omega)
    subst hs
    apply graph_spreads_run
    unfold graph_spreads_B
    rw [tloop_exit (r := l) (by simp [graph_spreads_l1T])]
    rfl
  | succ n ih =>
    intro sels l h hl
    apply graph_spreads_run
    unfold graph_spreads_B
    have hlen := bkSels_len sels
    have key := loop_list (b := graph_spreads_l1T sels) sels (fun k (a : List Str) => (a, (k : Int))) (fun r a => (namesS r).foldl addD a) (fun k a => a.length + bkSels (sels.drop k) < 1073741824) (by show sels.length < _; omega)
      (by intro a _; simp [graph_spreads_l1T, namesS])
      (by
        intro k x r a hm hk hd h1 h2 h3 hI
        rw [hd] at hI
        simp only [bkSels] at hI
        have hdr : sels.drop (k + 1) = r := by rw [← List.tail_drop, hd]; rfl
        have hx := bkSels_mem hm
        have hx2 := bkSel_sels x
        have hrec : ∀ a' : List Str, a'.length ≤ a.length + 1 → graph_spreads a' x.sels = some ((namesS x.sels).foldl addD a') := fun a' ha' => ih x.sels a' (by omega) (by omega)
        have hb := namesS1_bk x
        refine .inr ⟨(namesS1 x).foldl addD a, ?_, ?_, ?_⟩
        · rw [namesS1_eq]
          simp only [graph_spreads_l1T, h1, cnd_t, h2, bnd_s, h3, slices_Contains_string_ok a x.name (by show a.length < _; omega), hrec a (by omega)]
          cases x.kind == 1
          · rfl
          · have ht : tapp a [x.name] = some (a ++ [x.name]) := tapp_ok (by simp [lim_val]; omega)
            simp only [cnd_t, cond_true, List.cons_append, List.nil_append, List.foldl_cons, addD, ht, bnd_s, hrec (a ++ [x.name]) (by simp)]
            cases a.contains x.name <;> rfl
        · rw [hdr]
          have := foldA_len (namesS1 x) a
          omega
        · simp only [namesS, List.foldl_append]) (s := (l, 0)) (a := l) rfl (by simpa using hl)
    rw [key]; rfl
theorem graph_spreads_ok (sels : List GSel) (l : List Str) (h : l.length + bkSels sels < 1073741824) : graph_spreads l sels = some ((namesS sels).foldl addD l) := graph_spreads_ok' _ sels l (Nat.le_refl _) h

abbrev zFrag : GFrag := ⟨[], [], [], []⟩
theorem IndexFrag_ok (l : List GFrag) (a b name : Str) (d : GDoc) (hl : Sm l) :
    ∃ i, slices_IndexFunc_Frag l a b name d = some i ∧ (match l.find? (fun f => f.name == name) with | some f => decide (i < 0) = false ∧ nthI l i = some f | none => decide (i < 0) = true) := by
  have hc : ∀ f, graph_Frag_1 f a b name d = some (f.name == name) := fun f => graph_Frag_1_run rfl
  have key := loop_list (b := slices_IndexFunc_Frag_l1T l a b name d) l (fun k (_ : Nat) => (k : Int)) (fun r k => match r.findIdx? (fun f => f.name == name) with | some j => Sum.inr ((k + j : Nat) : Int) | none => Sum.inl ()) (fun k a => a = k) hl
    (by intro a _; simp [slices_IndexFunc_Frag_l1T])
    (by
      intro k x r a' hm hk hd h1 h2 h3 hI
      subst hI
      simp only [slices_IndexFunc_Frag_l1T, h1, cnd_t, h2, bnd_s, h3, hc, List.findIdx?_cons]
      cases hv : x.name == name
      · refine .inr ⟨a' + 1, rfl, rfl, ?_⟩
        simp only [Bool.false_eq_true, if_false]
        cases r.findIdx? (fun f => f.name == name) with
        | none => rfl
        | some j => simp only [Option.map_some]; congr 2; omega
      · left; simp) (s := 0) (a := 0) rfl rfl
  have hrun : ∀ i, slices_IndexFunc_Frag_B l a b name d = some i → slices_IndexFunc_Frag l a b name d = some i := fun i h => slices_IndexFunc_Frag_run h
  unfold slices_IndexFunc_Frag_B at hrun
  rw [key] at hrun
  simp only [bnd_s, Nat.zero_add] at hrun
  cases hf : l.findIdx? (fun f => f.name == name) with
  | none =>
    rw [hf] at hrun
    refine ⟨-1, hrun _ rfl, ?_⟩
    rw [List.findIdx?_eq_none_iff] at hf
    have : l.find? (fun f => f.name == name) = none := List.find?_eq_none.2 fun x hx => by simp [hf x hx]
    rw [this]; rfl
  | some j =>
    rw [hf] at hrun
    refine ⟨(j : Int), hrun _ rfl, ?_⟩
    obtain ⟨hj, hp, hq⟩ := List.findIdx?_eq_some_iff_getElem.1 hf
    have : l.find? (fun f => f.name == name) = some l[j] := by
      rw [List.find?_eq_some_iff_getElem]
      exact ⟨hp, j, hj, rfl, fun k hk => by simpa using hq k hk⟩
    rw [this]
    exact ⟨by simp, by rw [nthI_nat, List.getElem?_eq_getElem hj]⟩
def fragD (d : GDoc) (n : Str) : GFrag × Bool := match d.frags.find? (fun f => f.name == n) with | some f => (f, true) | none => (zFrag, false)
theorem graph_Frag_ok (d : GDoc) (n : Str) (hl : Sm d.frags) : graph_Frag d n = some (fragD d n) := by
  apply graph_Frag_run
  obtain ⟨i, h1, h2⟩ := IndexFrag_ok d.frags [] [] n d hl
  simp only [graph_Frag_B, h1, bnd_s, fragD]
  cases hf : d.frags.find? (fun f => f.name == n) with
  | none => rw [hf] at h2; simp only at h2; rw [h2]; rfl
  | some f => rw [hf] at h2; obtain ⟨h3, h4⟩ := h2; rw [h3, h4]; rfl
theorem fragD_mem {d : GDoc} {n : Str} (h : (fragD d n).2 = true) : (fragD d n).1 ∈ d.frags ∧ (fragD d n).1.name = n := by
  revert h
  unfold fragD
  cases hf : d.frags.find? (fun f => f.name == n) with
  | none => intro h; simp at h
  | some f => intro _; exact ⟨List.mem_of_find?_eq_some hf, by simpa using List.find?_some hf⟩
theorem fragD_of {d : GDoc} {f : GFrag} (h : f ∈ d.frags) : (fragD d f.name).2 = true := by
  unfold fragD
  cases hf : d.frags.find? (fun g => g.name == f.name) with
  | none => have := List.find?_eq_none.1 hf f h; simp at this
  | some g => rfl

/-! what is reached -/
def ClosedP (d : GDoc) (S : Str → Prop) : Prop := ∀ n, S n → (fragD d n).2 = true → ∀ m ∈ namesS (fragD d n).1.sels, S m
def allN (d : GDoc) (sels : List GSel) : List Str := namesS sels ++ d.frags.flatMap fun f => namesS f.sels
theorem flat_len : ∀ l : List GFrag, (l.flatMap fun f => namesS f.sels).length ≤ sumL bkFrag l
  | [] => by simp [sumL]
  | f :: l => by
    have h1 := flat_len l
    have h2 := namesS_bk f.sels
    have h3 : bkSels f.sels ≤ bkFrag f := by rw [bkFrag_eq, bkSels_eq]; simp only [bkSl]; omega
    simp only [List.flatMap_cons, List.length_append, sumL]; omega
theorem bkDoc_frags (d : GDoc) : sumL bkFrag d.frags + 1 ≤ bkDoc d := by rw [bkDoc_eq]; simp only [bkSl]; omega
theorem bkFrag_pos (f : GFrag) : 1 ≤ bkFrag f := by rw [bkFrag_eq]; omega
theorem frags_len (d : GDoc) : d.frags.length + 1 ≤ bkDoc d := by
  have := bkDoc_frags d; have := sumL_len bkFrag bkFrag_pos d.frags; omega
theorem graph_reached_ok (d : GDoc) (sels : List GSel) (hd : bkDoc d + bkSels sels < 500000000) :
    ∃ l, graph_reached d sels = some l ∧ l.length < 1073741824 ∧ (∀ n ∈ namesS sels, n ∈ l) ∧ ClosedP d (· ∈ l) ∧ ∀ S : Str → Prop, (∀ n ∈ namesS sels, S n) → ClosedP d S → ∀ n ∈ l, S n := by
  have hU : (allN d sels).length ≤ bkDoc d + bkSels sels := by
    have h1 := namesS_bk sels
    have h2 := flat_len d.frags
    have h3 := bkDoc_frags d
    simp only [allN, List.length_append]; omega
  have hf := frags_len d
  have hsm : Sm d.frags := by show d.frags.length < _; omega
  have base : graph_spreads [] sels = some ((namesS sels).foldl addD []) := graph_spreads_ok sels [] (by simp only [List.length_nil]; omega)
  have hsub : ∀ (l : List Str), l.Nodup → (∀ x ∈ l, x ∈ allN d sels) → l.length ≤ bkDoc d + bkSels sels := fun l h1 h2 => Nat.le_trans (nodup_len l _ h1 h2) hU
  obtain ⟨l, hl, hq⟩ := tloop_inv (b := graph_reached_l1T d sels)
    (I := fun s => ∃ i : Nat, s.1 = (i : Int) ∧ i ≤ s.2.length ∧ s.2.Nodup ∧ (∀ x ∈ s.2, x ∈ allN d sels) ∧ (∀ n ∈ namesS sels, n ∈ s.2) ∧
      (∀ (j : Nat) (n : Str), j < i → s.2[j]? = some n → (fragD d n).2 = true → ∀ m ∈ namesS (fragD d n).1.sels, m ∈ s.2) ∧ (∀ S : Str → Prop, (∀ n ∈ namesS sels, S n) → ClosedP d S → ∀ n ∈ s.2, S n))
    (m := fun s => bkDoc d + bkSels sels + 1 - s.1.toNat)
    (Q := fun l => l.length < 1073741824 ∧ (∀ n ∈ namesS sels, n ∈ l) ∧ ClosedP d (· ∈ l) ∧ ∀ S : Str → Prop, (∀ n ∈ namesS sels, S n) → ClosedP d S → ∀ n ∈ l, S n)
    (by
      rintro ⟨i', l⟩ ⟨i, hi, hle, hnd, hall, hin, hcl, hmin⟩
      simp only at hi hle hnd hall hin hcl hmin
      subst hi
      have hlen := hsub l hnd hall
      by_cases hil : l.length ≤ i
      · left
        refine ⟨l, ?_, by omega, hin, ?_, hmin⟩
        · have e1 : decide ((i : Int) ≥ (List.length l : Int)) = true := by simp; omega
          simp only [graph_reached_l1T, e1, cnd_t]
        · intro n hn hfr m hm
          obtain ⟨j, hj⟩ := List.mem_iff_getElem?.1 hn
          have hjl := (List.getElem?_eq_some_iff.1 hj).1
          exact hcl j n (by omega) hj hfr m hm
      · right
        have e1 : decide ((i : Int) ≥ (List.length l : Int)) = false := by simp; omega
        have hx := List.getElem?_eq_getElem (show i < l.length by omega)
        have e3 : IntKind.wrap .i64 ((i : Int) + 1) = ((i + 1 : Nat) : Int) := wadd (by omega)
        cases hfr : (fragD d l[i]).2
        · refine ⟨(((i + 1 : Nat) : Int), l), ?_, ⟨i + 1, rfl, by simp only; omega, hnd, hall, hin, ?_, hmin⟩, ?_⟩
          · simp only [graph_reached_l1T, e1, cnd_f, nthI_nat, hx, bnd_s, graph_Frag_ok d _ hsm, hfr, Bool.not_false, cnd_t, e3]
          · intro j n hj hjn hfn
            by_cases hji : j = i
            · subst hji
              rw [hx] at hjn; cases hjn
              rw [hfr] at hfn; simp at hfn
            · exact hcl j n (by omega) hjn hfn
          · simp only [Int.toNat_natCast]; omega
        · obtain ⟨hfm, _⟩ := fragD_mem hfr
          have hfb := sumL_mem bkFrag hfm
          have hfs : bkSels (fragD d l[i]).1.sels ≤ bkFrag (fragD d l[i]).1 := by rw [bkFrag_eq, bkSels_eq]; simp only [bkSl]; omega
          have hdf := bkDoc_frags d
          have hsp := graph_spreads_ok (fragD d l[i]).1.sels l (by omega)
          obtain ⟨t, ht⟩ := foldA_prefix (namesS (fragD d l[i]).1.sels) l
          refine ⟨(((i + 1 : Nat) : Int), (namesS (fragD d l[i]).1.sels).foldl addD l), ?_, ⟨i + 1, rfl, by simp only; rw [ht]; simp only [List.length_append]; omega, foldA_nodup _ _ hnd, ?_, ?_, ?_, ?_⟩, ?_⟩
          · simp only [graph_reached_l1T, e1, cnd_f, nthI_nat, hx, bnd_s, graph_Frag_ok d _ hsm, hfr, Bool.not_true, hsp, e3]
          · intro x hxm
            rcases (foldA_mem _ _ _).1 hxm with h | h
            · exact hall x h
            · exact List.mem_append_right _ (List.mem_flatMap.2 ⟨_, hfm, h⟩)
          · intro n hn; exact (foldA_mem _ _ _).2 (.inl (hin n hn))
          · intro j n hj hjn hfn m hm
            simp only at hjn ⊢
            rw [ht] at hjn
            rw [foldA_mem]
            by_cases hji : j = i
            · subst hji
              rw [List.getElem?_append_left (by omega), hx] at hjn; cases hjn
              exact .inr hm
            · rw [List.getElem?_append_left (by omega)] at hjn
              exact .inl (hcl j n (by omega) hjn hfn m hm)
          · intro S h1 h2 n hn
            rcases (foldA_mem _ _ _).1 hn with h | h
            · exact hmin S h1 h2 n h
            · exact h2 l[i] (hmin S h1 h2 _ (List.getElem_mem _)) hfr n h
          · simp only [Int.toNat_natCast]; omega)
    (0, (namesS sels).foldl addD [])
    ⟨0, rfl, Nat.zero_le _, foldA_nodup _ _ List.nodup_nil, (fun x hx => by
      rcases (foldA_mem _ _ _).1 hx with h | h
      · simp at h
      · exact List.mem_append_left _ h), (fun n hn => (foldA_mem _ _ _).2 (.inr hn)), (fun j n hj => by omega), (fun S h1 _ n hn => by
      rcases (foldA_mem _ _ _).1 hn with h | h
      · simp at h
      · exact h1 n h)⟩
  exact ⟨l, graph_reached_run (by simp only [graph_reached_B, base, bnd_s, hl]), hq⟩
theorem graph_Reach_ok (d : GDoc) (sels : List GSel) (hd : bkDoc d + bkSels sels < 500000000) :
    ∃ (r l : List Str), graph_Reach d sels = some r ∧ r.Nodup ∧ r.length < 1073741824 ∧ (∀ n, n ∈ r ↔ n ∈ l ∧ (fragD d n).2 = true) ∧ (∀ n ∈ namesS sels, n ∈ l) ∧ ClosedP d (· ∈ l) ∧ ∀ S : Str → Prop, (∀ n ∈ namesS sels, S n) → ClosedP d S → ∀ n ∈ l, S n := by
  obtain ⟨l, h1, h2, h3, h4, h5⟩ := graph_reached_ok d sels hd
  have hf := frags_len d
  have key := loop_fold (b := graph_Reach_l1T d l) d.frags (fun k (a : List Str) => (a, (k : Int))) (fun a f => bif l.contains f.name then addD a f.name else a) id (fun k a => a.length ≤ k) (by show d.frags.length < _; omega)
    (by intro a _; simp [graph_Reach_l1T])
    (by
      intro k x a hm hk e1 e2 e3 hI
      have ht : tapp a [x.name] = some (a ++ [x.name]) := tapp_ok (by simp [lim_val]; omega)
      simp only [graph_Reach_l1T, e1, cnd_t, e2, bnd_s, e3, slices_Contains_string_ok l x.name (by show l.length < _; omega), slices_Contains_string_ok a x.name (by show a.length < _; omega), ht]
      cases l.contains x.name
      · exact ⟨rfl, by simp only [cond_false]; omega⟩
      · simp only [cnd_t, cond_true, addD]
        cases a.contains x.name
        · exact ⟨rfl, by simp; omega⟩
        · exact ⟨rfl, by simp; omega⟩) (s := ([], 0)) (a := []) rfl (by simp)
  have fold : ∀ (fs : List GFrag) (a : List Str), (a.Nodup → (fs.foldl (fun a f => bif l.contains f.name then addD a f.name else a) a).Nodup) ∧ (fs.foldl (fun a f => bif l.contains f.name then addD a f.name else a) a).length ≤ a.length + fs.length ∧
      ∀ n, n ∈ fs.foldl (fun a f => bif l.contains f.name then addD a f.name else a) a ↔ n ∈ a ∨ ∃ f ∈ fs, n ∈ l ∧ f.name = n := by
    intro fs
    induction fs with
    | nil => intro a; simp
    | cons f fs ih =>
      intro a
      rw [List.foldl_cons]
      obtain ⟨i1, i2, i3⟩ := ih (bif l.contains f.name then addD a f.name else a)
      refine ⟨fun hn => i1 ?_, ?_, fun n => ?_⟩
      · cases l.contains f.name
        · exact hn
        · exact addD_nodup hn
      · have := addD_len a f.name
        cases hc : l.contains f.name <;> rw [hc] at i2 <;> simp only [cond_true, cond_false, List.length_cons] at i2 ⊢ <;> omega
      · rw [i3]
        cases hc : l.contains f.name
        · have hn : f.name ∉ l := by simpa using hc
          simp only [cond_false, List.mem_cons, exists_eq_or_imp]
          constructor
          · rintro (h | h)
            · exact .inl h
            · exact .inr (.inr h)
          · rintro (h | ⟨h, e⟩ | h)
            · exact .inl h
            · exact absurd (e ▸ h) hn
            · exact .inr h
        · have hn : f.name ∈ l := by simpa using hc
          simp only [cond_true, addD_sub, List.mem_cons, exists_eq_or_imp]
          constructor
          · rintro ((h | h) | h)
            · exact .inl h
            · exact .inr (.inl ⟨h ▸ hn, h.symm⟩)
            · exact .inr (.inr h)
          · rintro (h | ⟨h, e⟩ | h)
            · exact .inl (.inl h)
            · exact .inl (.inr e.symm)
            · exact .inr h
  obtain ⟨f1, f2, f3⟩ := fold d.frags []
  refine ⟨_, l, graph_Reach_run (by simp only [graph_Reach_B, h1, bnd_s, key]; rfl), f1 List.nodup_nil, ?_, ?_, h3, h4, h5⟩
  · simp only [List.length_nil] at f2; omega
  · intro n
    rw [f3]
    constructor
    · rintro (h | ⟨f, hf, hn, e⟩)
      · simp at h
      · exact ⟨hn, e ▸ fragD_of hf⟩
    · rintro ⟨hn, hfr⟩
      obtain ⟨hm, hname⟩ := fragD_mem hfr
      exact .inr ⟨_, hm, hn, hname⟩
end Go.Proofs.Ytphmfillajagdaa

/-
  The names of variables: in a value, in members, in selections; lists that rise.
-/
set_option linter.unusedVariables false
set_option linter.unusedSimpArgs false
open Go Go.Ev
namespace Go.Proofs.Ytphmfillajagdaa

mutual
def varN : GValue → List Str
  | ⟨k, _, s, l, m⟩ => bif k == 8 then [s] else bif k == 6 then varNs l else bif k == 7 then varNm m else []
def varNs : List GValue → List Str
  | [] => []
  | x :: l => varN x ++ varNs l
def varN1 : GMember → List Str
  | ⟨_, v⟩ => varN v
def varNm : List GMember → List Str
  | [] => []
  | x :: l => varN1 x ++ varNm l
end
theorem varN_eq (v : GValue) : varN v = bif v.kind == 8 then [v.s] else bif v.kind == 6 then varNs v.l else bif v.kind == 7 then varNm v.m else [] := by cases v; simp only [varN]
theorem varN1_eq (x : GMember) : varN1 x = varN x.v := by cases x; simp only [varN1]
mutual
theorem varN_sz : ∀ v : GValue, (varN v).length ≤ szV v
  | ⟨k, n, s, l, m⟩ => by
    have h1 := varNs_sz l
    have h2 := varNm_sz m
    simp only [varN, szV]
    cases k == 8 <;> cases k == 6 <;> cases k == 7 <;> simp only [cond_true, cond_false, List.length_nil, List.length_singleton] <;> omega
theorem varNs_sz : ∀ l : List GValue, (varNs l).length ≤ szVs l
  | [] => by simp [varNs]
  | x :: l => by have := varN_sz x; have := varNs_sz l; simp only [varNs, szVs, List.length_append]; omega
theorem varN1_sz : ∀ x : GMember, (varN1 x).length ≤ szM x
  | ⟨n, v⟩ => by have := varN_sz v; simp only [varN1, szM]; omega
theorem varNm_sz : ∀ l : List GMember, (varNm l).length ≤ szMs l
  | [] => by simp [varNm]
  | x :: l => by have := varN1_sz x; have := varNm_sz l; simp only [varNm, szMs, List.length_append]; omega
end
/-! adding once: what was added once before -/
theorem addD_once {l : List Str} {x : Str} (h : x ∈ l) : addD l x = l := by unfold addD; rw [List.contains_iff_mem.2 h]; rfl
theorem addD_new {l : List Str} {x : Str} (h : x ∉ l) : addD l x = l ++ [x] := by
  have : l.contains x = false := by rw [Bool.eq_false_iff]; intro hc; exact h (List.contains_iff_mem.1 hc)
  unfold addD; rw [this]; rfl
theorem twice_aux : ∀ (L a out : List Str), (L.foldl addD a).foldl addD out = L.foldl addD (a.foldl addD out)
  | [], a, out => rfl
  | x :: L, a, out => by
    rw [List.foldl_cons, twice_aux L (addD a x) out, List.foldl_cons]
    congr 1
    by_cases h : x ∈ a
    · rw [addD_once h, addD_once ((foldA_mem _ _ _).2 (.inr h))]
    · rw [addD_new h, List.foldl_append]; rfl
theorem twice (L out : List Str) : (L.foldl addD []).foldl addD out = L.foldl addD out := twice_aux L [] out

theorem value_vars_ok' : ∀ (n : Nat) (v : GValue) (l : List Str), szV v ≤ n → l.length + szV v < 1073741824 → value_vars l v = some ((varN v).foldl addD l) := by
  intro n
  induction n with
  | zero => intro v l h; have := szV_eq v; omega
  | succ n ih =>
    intro v l h hl
    have hv := szV_eq v
    have h1 := szVs_len v.l
    have h2 := szMs_len v.m
    apply value_vars_run
    unfold value_vars_B
    rw [varN_eq]
    cases h8 : v.kind == 8
    · cases h6 : v.kind == 6
      · cases h7 : v.kind == 7
        · rfl
        · have key := loop_list (b := value_vars_l2T v) v.m (fun k (a : List Str) => (a, (k : Int))) (fun r a => (varNm r).foldl addD a) (fun k a => a.length + szMs (v.m.drop k) < 1073741824) (by show v.m.length < _; omega)
            (by intro a _; simp [value_vars_l2T, varNm])
            (by
              intro k x r a hm hk hd e1 e2 e3 hI
              rw [hd] at hI
              simp only [szMs] at hI
              have hdr : v.m.drop (k + 1) = r := by rw [← List.tail_drop, hd]; rfl
              have hx := szMs_mem hm
              have hx2 := szM_eq x
              have hb := varN_sz x.v
              have hf := foldA_len (varN x.v) a
              refine .inr ⟨(varN x.v).foldl addD a, ?_, ?_, ?_⟩
              · simp only [value_vars_l2T, e1, cnd_t, e2, bnd_s, e3, ih x.v a (by omega) (by omega)]
              · rw [hdr]; omega
              · simp only [varNm, varN1_eq, List.foldl_append]) (s := (l, 0)) (a := l) rfl (by simp; omega)
          simp only [cnd_f, cnd_t, cond_false, cond_true, key, bnd_s]
      · have key := loop_list (b := value_vars_l1T v) v.l (fun k (a : List Str) => (a, (k : Int))) (fun r a => (varNs r).foldl addD a) (fun k a => a.length + szVs (v.l.drop k) < 1073741824) (by show v.l.length < _; omega)
          (by intro a _; simp [value_vars_l1T, varNs])
          (by
            intro k x r a hm hk hd e1 e2 e3 hI
            rw [hd] at hI
            simp only [szVs] at hI
            have hdr : v.l.drop (k + 1) = r := by rw [← List.tail_drop, hd]; rfl
            have hx := szVs_mem hm
            have hb := varN_sz x
            have hf := foldA_len (varN x) a
            refine .inr ⟨(varN x).foldl addD a, ?_, ?_, ?_⟩
            · simp only [value_vars_l1T, e1, cnd_t, e2, bnd_s, e3, ih x a (by omega) (by omega)]
            · rw [hdr]; omega
            · simp only [varNs, List.foldl_append]) (s := (l, 0)) (a := l) rfl (by simp; omega)
        simp only [cnd_f, cnd_t, cond_false, cond_true, key, bnd_s]
    · have ht : tapp l [v.s] = some (l ++ [v.s]) := tapp_ok (by simp [lim_val]; omega)
      simp only [cnd_t, cond_true, slices_Contains_string_ok l v.s (by show l.length < _; omega), bnd_s, ht, List.foldl_cons, List.foldl_nil, addD]
      cases l.contains v.s <;> rfl
theorem value_Vars_ok (v : GValue) (h : szV v < 1073741824) : value_Vars v = some ((varN v).foldl addD []) :=
  value_Vars_run (by simp only [value_Vars_B, value_vars_ok' _ v [] (Nat.le_refl _) (by simpa using h), bnd_s])

theorem seineref1_vars_ok' : ∀ (n : Nat) (v : GValue) (l : List Str), szV v ≤ n → l.length + szV v < 1073741824 → seineref1_vars v l = some ((varN v).foldl addD l) := by
  intro n
  induction n with
  | zero => intro v l h; have := szV_eq v; omega
  | succ n ih =>
    intro v l h hl
    have hv := szV_eq v
    have h1 := szVs_len v.l
    have h2 := szMs_len v.m
    have stop : ∀ (F : Bool), (v.kind == 6) = F → True := fun _ _ => trivial
    apply seineref1_vars_run
    unfold seineref1_vars_B
    rw [varN_eq]
    have stay5 : ∀ a : List Str, (v.kind == 6) = false → tloop (seineref1_vars_l5T v) (a, 0) = some a := by
      intro a h6
      apply tloop_exit
      simp only [seineref1_vars_l5T, h6, cnd_f, cnd_same]
    have stay6 : ∀ a : List Str, (v.kind == 7) = false → tloop (seineref1_vars_l6T v) (a, 0) = some a := by
      intro a h7
      apply tloop_exit
      simp only [seineref1_vars_l6T, h7, cnd_f, cnd_same]
    cases h8 : v.kind == 8
    · cases h6 : v.kind == 6
      · cases h7 : v.kind == 7
        · simp only [cnd_f, cond_false, stay5 l h6, stay6 l h7, bnd_s]; rfl
        · have key := loop_list (b := seineref1_vars_l6T v) v.m (fun k (a : List Str) => (a, (k : Int))) (fun r a => (varNm r).foldl addD a) (fun k a => a.length + szMs (v.m.drop k) < 1073741824) (by show v.m.length < _; omega)
            (by intro a _; simp [seineref1_vars_l6T, varNm])
            (by
              intro k x r a hm hk hd e1 e2 e3 hI
              rw [hd] at hI
              simp only [szMs] at hI
              have hdr : v.m.drop (k + 1) = r := by rw [← List.tail_drop, hd]; rfl
              have hx := szMs_mem hm
              have hx2 := szM_eq x
              have hb := varN_sz x.v
              have hf := foldA_len (varN x.v) a
              refine .inr ⟨(varN x.v).foldl addD a, ?_, ?_, ?_⟩
              · simp only [seineref1_vars_l6T, h7, e1, cnd_t, e2, bnd_s, e3, ih x.v a (by omega) (by omega)]
              · rw [hdr]; omega
              · simp only [varNm, varN1_eq, List.foldl_append]) (s := (l, 0)) (a := l) rfl (by simp; omega)
          simp only [cnd_f, cnd_t, cond_false, cond_true, stay5 l h6, key, bnd_s]
      · have key := loop_list (b := seineref1_vars_l5T v) v.l (fun k (a : List Str) => (a, (k : Int))) (fun r a => (varNs r).foldl addD a) (fun k a => a.length + szVs (v.l.drop k) < 1073741824) (by show v.l.length < _; omega)
          (by intro a _; simp [seineref1_vars_l5T, varNs])
          (by
            intro k x r a hm hk hd e1 e2 e3 hI
            rw [hd] at hI
            simp only [szVs] at hI
            have hdr : v.l.drop (k + 1) = r := by rw [← List.tail_drop, hd]; rfl
            have hx := szVs_mem hm
            have hb := varN_sz x
            have hf := foldA_len (varN x) a
            refine .inr ⟨(varN x).foldl addD a, ?_, ?_, ?_⟩
            · simp only [seineref1_vars_l5T, h6, e1, cnd_t, e2, bnd_s, e3, ih x a (by omega) (by omega)]
            · rw [hdr]; omega
            · simp only [varNs, List.foldl_append]) (s := (l, 0)) (a := l) rfl (by simp; omega)
        have h7 : (v.kind == 7) = false := by
          have : v.kind = 6 := by simpa using h6
          rw [this]; rfl
        simp only [cnd_f, cnd_t, cond_false, cond_true, key, stay6 _ h7, bnd_s]
    · have ht : tapp l [v.s] = some (l ++ [v.s]) := tapp_ok (by simp [lim_val]; omega)
      have hk : v.kind = 8 := by simpa using h8
      have h6 : (v.kind == 6) = false := by rw [hk]; rfl
      have h7 : (v.kind == 7) = false := by rw [hk]; rfl
      have s1 : ∀ a : List Str, tloop (seineref1_vars_l1T v) (a, 0) = some a := by
        intro a; apply tloop_exit; simp only [seineref1_vars_l1T, h6, cnd_f, cnd_same]
      have s2 : ∀ a : List Str, tloop (seineref1_vars_l2T v) (a, 0) = some a := by
        intro a; apply tloop_exit; simp only [seineref1_vars_l2T, h7, cnd_f, cnd_same]
      have s3 : ∀ a : List Str, tloop (seineref1_vars_l3T v) (a, 0) = some a := by
        intro a; apply tloop_exit; simp only [seineref1_vars_l3T, h6, cnd_f, cnd_same]
      have s4 : ∀ a : List Str, tloop (seineref1_vars_l4T v) (a, 0) = some a := by
        intro a; apply tloop_exit; simp only [seineref1_vars_l4T, h7, cnd_f, cnd_same]
      simp only [cnd_t, cond_true, seineref1_Has_ok l v.s (by show l.length < _; omega), bnd_s, ht, s1, s2, s3, s4, List.foldl_cons, List.foldl_nil, addD]
      cases l.contains v.s <;> rfl
theorem seineref1_Vars_ok (v : GValue) (h : szV v < 1073741824) : seineref1_Vars v = some ((varN v).foldl addD []) :=
  seineref1_Vars_run (by simp only [seineref1_Vars_B, seineref1_vars_ok' _ v [] (Nat.le_refl _) (by simpa using h), bnd_s])
end Go.Proofs.Ytphmfillajagdaa

/-
  Names in selections; put among rising ones.
-/
set_option linter.unusedVariables false
set_option linter.unusedSimpArgs false
open Go Go.Ev
namespace Go.Proofs.Ytphmfillajagdaa

def useDs : List GDir → List Str
  | [] => []
  | d :: l => varNm d.args ++ useDs l
mutual
def useS1 : GSel → List Str
  | ⟨_, _, _, ar, di, _, l⟩ => varNm ar ++ (useDs di ++ useS l)
def useS : List GSel → List Str
  | [] => []
  | x :: l => useS1 x ++ useS l
end
theorem useS1_eq (x : GSel) : useS1 x = varNm x.args ++ (useDs x.dirs ++ useS x.sels) := by cases x; simp only [useS1]
theorem useS_append : ∀ l m : List GSel, useS (l ++ m) = useS l ++ useS m
  | [], m => rfl
  | x :: l, m => by simp only [List.cons_append, useS, useS_append l m, List.append_assoc]
theorem varNm_bk (l : List GMember) : (varNm l).length ≤ bkSl bkMember l := by
  have := varNm_sz l
  have := szMs_bk l
  rw [bkMembers_eq] at this
  have e : bkSl bkMember l = sumL bkMember l + 1 := rfl
  omega
theorem useDs_bk : ∀ l : List GDir, (useDs l).length ≤ sumL bkDir l
  | [] => by simp [useDs]
  | d :: l => by
    have h1 := useDs_bk l
    have h2 := varNm_bk d.args
    simp only [useDs, sumL, List.length_append, bkDir_eq]; omega
mutual
theorem useS1_bk : ∀ x : GSel, (useS1 x).length ≤ bkSel x
  | ⟨k, a, n, ar, di, o, l⟩ => by
    have h := useS_bk l
    have h2 := varNm_bk ar
    have h3 := useDs_bk di
    rw [bkSel_eq]
    simp only [useS1, List.length_append]
    have e1 : bkSl bkDir di = sumL bkDir di + 1 := rfl
    have e2 : bkSl bkSel l = sumL bkSel l + 1 := rfl
    have e3 := bkSels_eq l
    omega
theorem useS_bk : ∀ l : List GSel, (useS l).length ≤ bkSels l
  | [] => by simp [useS]
  | x :: l => by have := useS1_bk x; have := useS_bk l; simp only [useS, bkSels, List.length_append]; omega
end
theorem args_v {m : List GMember} {x : GMember} (h : x ∈ m) (hm : bkSl bkMember m < 1073741824) : szV x.v < 1073741824 := by
  have h4 := szMs_bk m
  rw [bkMembers_eq] at h4
  have e : bkSl bkMember m = sumL bkMember m + 1 := rfl
  have h5 := szMs_mem h
  have h6 := szM_eq x
  omega
theorem dedup_len (L : List Str) : (L.foldl addD []).length ≤ L.length := by have := foldA_len L []; simpa using this

/-! the reference's -/
theorem used_in_ok (L out : List Str) (h : out.length + L.length < 1073741824) : tloop (seineref13_used_l1T L) (out, 0) = some (L.foldl addD out) :=
  loop_fold (b := seineref13_used_l1T L) L (fun k (a : List Str) => (a, (k : Int))) addD id (fun k a => a.length + (L.length - k) < 1073741824) (by show L.length < _; omega)
    (by intro a _; simp [seineref13_used_l1T])
    (by
      intro k x a hm hk e1 e2 e3 hI
      have ht : tapp a [x] = some (a ++ [x]) := tapp_ok (by simp [lim_val]; omega)
      have := addD_len a x
      refine ⟨?_, by omega⟩
      simp only [seineref13_used_l1T, e1, cnd_t, e2, bnd_s, e3, seineref1_Has_ok a x (by show a.length < _; omega), ht, addD]
      cases a.contains x <;> rfl) (s := (out, 0)) (a := out) rfl (by omega)
theorem seineref13_used_ok (m : List GMember) (out : List Str) (h : out.length + bkSl bkMember m < 1073741824) : seineref13_used m out = some ((varNm m).foldl addD out) := by
  apply seineref13_used_run
  have h4 := szMs_bk m
  rw [bkMembers_eq] at h4
  have e : bkSl bkMember m = sumL bkMember m + 1 := rfl
  have hlen := szMs_len m
  have key := loop_list (b := seineref13_used_l2T m) m (fun k (a : List Str) => (a, (k : Int))) (fun r a => (varNm r).foldl addD a) (fun k a => a.length + szMs (m.drop k) < 1073741824) (by show m.length < _; omega)
    (by intro a _; simp [seineref13_used_l2T, varNm])
    (by
      intro k x r a hm hk hd e1 e2 e3 hI
      rw [hd] at hI
      simp only [szMs] at hI
      have hdr : m.drop (k + 1) = r := by rw [← List.tail_drop, hd]; rfl
      have hx2 := szM_eq x
      have hb := varN_sz x.v
      have hf := foldA_len (varN x.v) a
      have hdl := dedup_len (varN x.v)
      refine .inr ⟨(varN x.v).foldl addD a, ?_, ?_, ?_⟩
      · simp only [seineref13_used_l2T, e1, cnd_t, e2, bnd_s, e3, seineref1_Vars_ok x.v (by omega), used_in_ok _ a (show a.length + ((varN x.v).foldl addD []).length < _ by omega), twice]
      · rw [hdr]; omega
      · simp only [varNm, varN1_eq, List.foldl_append]) (s := (out, 0)) (a := out) rfl (by simp; omega)
  simp only [seineref13_used_B, key, bnd_s]
theorem usedDirs_ok (l : List GSel) (i : Nat) (x : GSel) (hx : nthI l (i : Int) = some x) (out : List Str) (h : out.length + bkSl bkDir x.dirs < 1073741824) :
    tloop (seineref13_usedSels_l1T l (i : Int)) (out, 0) = some ((useDs x.dirs).foldl addD out) := by
  have hlen := sumL_len bkDir (fun d => by rw [bkDir_eq]; omega) x.dirs
  have e : bkSl bkDir x.dirs = sumL bkDir x.dirs + 1 := rfl
  exact loop_list (b := seineref13_usedSels_l1T l (i : Int)) x.dirs (fun k (a : List Str) => (a, (k : Int))) (fun r a => (useDs r).foldl addD a) (fun k a => a.length + sumL bkDir (x.dirs.drop k) < 1073741824) (by show x.dirs.length < _; omega)
    (by intro a _; simp [seineref13_usedSels_l1T, hx, useDs])
    (by
      intro k d r a hm hk hd e1 e2 e3 hI
      rw [hd] at hI
      simp only [sumL] at hI
      have hdr : x.dirs.drop (k + 1) = r := by rw [← List.tail_drop, hd]; rfl
      have hb := bkDir_eq d
      have hb2 := varNm_bk d.args
      have hf := foldA_len (varNm d.args) a
      refine .inr ⟨(varNm d.args).foldl addD a, ?_, ?_, ?_⟩
      · simp only [seineref13_usedSels_l1T, hx, bnd_s, e1, cnd_t, e2, e3, seineref13_used_ok d.args a (by omega)]
      · rw [hdr]; omega
      · simp only [useDs, List.foldl_append]) (s := (out, 0)) (a := out) rfl (by simp; omega)
theorem usedSels_ok' : ∀ (n : Nat) (l : List GSel) (out : List Str), bkSels l ≤ n → out.length + bkSels l < 1073741824 → seineref13_usedSels l out = some ((useS l).foldl addD out) := by
  intro n
  induction n with
  | zero =>
    intro l out h hl
    have := bkSels_len l
    have hs : l = [] := List.length_eq_zero_iff.1 (by omega)
    subst hs
    apply seineref13_usedSels_run
    unfold seineref13_usedSels_B
    rw [tloop_exit (r := out) (by simp [seineref13_usedSels_l2T])]
    rfl
  | succ n ih =>
    intro l out h hl
    apply seineref13_usedSels_run
    unfold seineref13_usedSels_B
    have hlen := bkSels_len l
    have key := loop_list (b := seineref13_usedSels_l2T l) l (fun k (a : List Str) => (a, (k : Int))) (fun r a => (useS r).foldl addD a) (fun k a => a.length + bkSels (l.drop k) < 1073741824) (by show l.length < _; omega)
      (by intro a _; simp [seineref13_usedSels_l2T, useS])
      (by
        intro k x r a hm hk hd h1 h2 h3 hI
        rw [hd] at hI
        simp only [bkSels] at hI
        have hdr : l.drop (k + 1) = r := by rw [← List.tail_drop, hd]; rfl
        have hx := bkSels_mem hm
        have hx2 := bkSel_sels x
        have hx3 := bkSel_eq x
        have e3 := bkSels_eq x.sels
        have e4 : bkSl bkSel x.sels = sumL bkSel x.sels + 1 := rfl
        have e5 : bkSl bkDir x.dirs = sumL bkDir x.dirs + 1 := rfl
        have b1 := varNm_bk x.args
        have b2 := useDs_bk x.dirs
        have b3 := useS_bk x.sels
        have f1 := foldA_len (varNm x.args) a
        have f2 := foldA_len (useDs x.dirs) ((varNm x.args).foldl addD a)
        have f3 := foldA_len (useS x.sels) ((useDs x.dirs).foldl addD ((varNm x.args).foldl addD a))
        refine .inr ⟨(useS1 x).foldl addD a, ?_, ?_, ?_⟩
        · rw [useS1_eq, List.foldl_append, List.foldl_append]
          simp only [seineref13_usedSels_l2T, h1, cnd_t, h2, bnd_s, h3, seineref13_used_ok x.args a (by omega), usedDirs_ok l k x h2 ((varNm x.args).foldl addD a) (by omega), ih x.sels ((useDs x.dirs).foldl addD ((varNm x.args).foldl addD a)) (by omega) (by omega)]
        · rw [hdr]
          have := foldA_len (useS1 x) a
          have := useS1_bk x
          omega
        · simp only [useS, List.foldl_append]) (s := (out, 0)) (a := out) rfl (by simpa using hl)
    rw [key]; rfl
theorem seineref13_usedSels_ok (l : List GSel) (out : List Str) (h : out.length + bkSels l < 1073741824) : seineref13_usedSels l out = some ((useS l).foldl addD out) := usedSels_ok' _ l out (Nat.le_refl _) h

/-! lists that rise -/
theorem bl_iff : ∀ (x y : Str), Op.bytesLess x y = true ↔ x < y
  | [], [] => by simp [Op.bytesLess]
  | _ :: _, [] => by simp [Op.bytesLess]
  | [], _ :: _ => by simp [Op.bytesLess]
  | a :: x, b :: y => by rw [Op.bytesLess, List.cons_lt_cons_iff, Bool.or_eq_true, Bool.and_eq_true, bl_iff x y, beq_iff_eq, decide_eq_true_eq]
abbrev Ris (l : List Str) : Prop := l.Pairwise (· < ·)
theorem Ris.nodup {l : List Str} (h : Ris l) : l.Nodup := h.imp fun h e => by subst e; exact List.lt_irrefl _ h
theorem insS_mem : ∀ (l : List Str) (s x : Str), x ∈ insS l s ↔ x ∈ l ∨ x = s
  | [], s, x => by simp [insS]
  | y :: r, s, x => by
    have ih := insS_mem r s x
    simp only [insS]
    split
    · simp only [List.mem_cons, ih, or_assoc]
    · split
      · rename_i h; subst h; simp only [List.mem_cons]; constructor
        · rintro (h | h)
          · exact .inl (.inl h)
          · exact .inl (.inr h)
        · rintro ((h | h) | h)
          · exact .inl h
          · exact .inr h
          · exact .inl h
      · simp only [List.mem_cons]; constructor
        · rintro (h | h | h)
          · exact .inr h
          · exact .inl (.inl h)
          · exact .inl (.inr h)
        · rintro ((h | h) | h)
          · exact .inr (.inl h)
          · exact .inr (.inr h)
          · exact .inl h
theorem insS_ris : ∀ (l : List Str) (s : Str), Ris l → Ris (insS l s)
  | [], s, h => by simp [insS, Ris]
  | y :: r, s, h => by
    have h1 := List.pairwise_cons.1 h
    simp only [insS]
    split
    · rename_i hl
      rw [bl_iff] at hl
      refine List.pairwise_cons.2 ⟨fun z hz => ?_, insS_ris r s h1.2⟩
      rcases (insS_mem r s z).1 hz with h | h
      · exact h1.1 z h
      · rw [h]; exact hl
    · rename_i hl
      rw [bl_iff] at hl
      split
      · exact h
      · rename_i hne
        have hs : s < y := by
          rcases Std.lt_trichotomy s y with h | h | h
          · exact h
          · exact absurd h.symm hne
          · exact absurd h hl
        refine List.pairwise_cons.2 ⟨fun z hz => ?_, h⟩
        rcases List.mem_cons.1 hz with h | h
        · rw [h]; exact hs
        · exact List.lt_trans hs (h1.1 z h)
theorem insS_once : ∀ (l : List Str) (s : Str), Ris l → s ∈ l → insS l s = l
  | [], s, _, h => by simp at h
  | y :: r, s, h, hs => by
    have h1 := List.pairwise_cons.1 h
    simp only [insS]
    rcases List.mem_cons.1 hs with e | hm
    · subst e
      rw [if_neg (by rw [bl_iff]; exact List.lt_irrefl _), if_pos rfl]
    · rw [if_pos ((bl_iff _ _).2 (h1.1 s hm)), insS_once r s h1.2 hm]
theorem foldI_mem : ∀ (ns l : List Str) (x : Str), x ∈ ns.foldl insS l ↔ x ∈ l ∨ x ∈ ns
  | [], l, x => by simp
  | n :: ns, l, x => by rw [List.foldl_cons, foldI_mem ns, insS_mem, List.mem_cons, or_assoc]
theorem foldI_ris : ∀ (ns l : List Str), Ris l → Ris (ns.foldl insS l)
  | [], l, h => h
  | n :: ns, l, h => foldI_ris ns _ (insS_ris l n h)
theorem foldI_len : ∀ (ns l : List Str), (ns.foldl insS l).length ≤ l.length + ns.length
  | [], l => by simp
  | n :: ns, l => by have := foldI_len ns (insS l n); have := insS_len l n; rw [List.foldl_cons, List.length_cons]; omega
theorem onceI_aux : ∀ (L a l : List Str), Ris l → (L.foldl addD a).foldl insS l = L.foldl insS (a.foldl insS l)
  | [], a, l, _ => rfl
  | x :: L, a, l, hl => by
    rw [List.foldl_cons, onceI_aux L (addD a x) l hl, List.foldl_cons]
    congr 1
    by_cases h : x ∈ a
    · rw [addD_once h, insS_once _ _ (foldI_ris a l hl) ((foldI_mem _ _ _).2 (.inr h))]
    · rw [addD_new h, List.foldl_append]; rfl
theorem onceI (L l : List Str) (hl : Ris l) : (L.foldl addD []).foldl insS l = L.foldl insS l := onceI_aux L [] l hl
theorem ris_ext : ∀ (l m : List Str), Ris l → Ris m → (∀ x, x ∈ l ↔ x ∈ m) → l = m
  | [], [], _, _, _ => rfl
  | [], y :: m, _, _, h => by have := (h y).2 (by simp); simp at this
  | x :: l, [], _, _, h => by have := (h x).1 (by simp); simp at this
  | x :: l, y :: m, hl, hm, h => by
    have h1 := List.pairwise_cons.1 hl
    have h2 := List.pairwise_cons.1 hm
    have e : x = y := by
      rcases List.mem_cons.1 ((h x).1 (by simp)) with e | hx
      · exact e
      · rcases List.mem_cons.1 ((h y).2 (by simp)) with e | hy
        · exact e.symm
        · exact absurd (List.lt_trans (h1.1 y hy) (h2.1 x hx)) (List.lt_irrefl _)
    subst e
    congr 1
    refine ris_ext l m h1.2 h2.2 fun z => ?_
    constructor
    · intro hz
      rcases List.mem_cons.1 ((h z).1 (by simp [hz])) with e | h
      · subst e; exact absurd (h1.1 z hz) (List.lt_irrefl _)
      · exact h
    · intro hz
      rcases List.mem_cons.1 ((h z).2 (by simp [hz])) with e | h
      · subst e; exact absurd (h2.1 z hz) (List.lt_irrefl _)
      · exact h
end Go.Proofs.Ytphmfillajagdaa

/-
  What the program gathers: rising. What the reference gathers, and sorts.
-/
set_option linter.unusedVariables false
set_option linter.unusedSimpArgs false
open Go Go.Ev
namespace Go.Proofs.Ytphmfillajagdaa

theorem vars_insert_ok (l : List Str) (s : Str) (h : l.length < 1073741824) : vars_insert l s = some (insS l s) :=
  vars_insert_run (by unfold tInsert; rw [if_pos (by rw [lim_val]; omega)])
theorem insL_ok (L l : List Str) (h : l.length + L.length < 1073741824) : tloop (vars_of_l1T L) (l, 0) = some (L.foldl insS l) :=
  loop_fold (b := vars_of_l1T L) L (fun k (a : List Str) => (a, (k : Int))) insS id (fun k a => a.length + (L.length - k) < 1073741824) (by show L.length < _; omega)
    (by intro a _; simp [vars_of_l1T])
    (by
      intro k x a hm hk e1 e2 e3 hI
      have := insS_len a x
      refine ⟨?_, by omega⟩
      simp only [vars_of_l1T, e1, cnd_t, e2, bnd_s, e3, vars_insert_ok a x (by omega)]) (s := (l, 0)) (a := l) rfl (by omega)
theorem vars_of_ok (m : List GMember) (l : List Str) (hr : Ris l) (h : l.length + bkSl bkMember m < 1073741824) : vars_of l m = some ((varNm m).foldl insS l) := by
  apply vars_of_run
  have h4 := szMs_bk m
  rw [bkMembers_eq] at h4
  have e : bkSl bkMember m = sumL bkMember m + 1 := rfl
  have hlen := szMs_len m
  have key := loop_list (b := vars_of_l2T m) m (fun k (a : List Str) => (a, (k : Int))) (fun r a => (varNm r).foldl insS a) (fun k a => Ris a ∧ a.length + szMs (m.drop k) < 1073741824) (by show m.length < _; omega)
    (by intro a _; simp [vars_of_l2T, varNm])
    (by
      intro k x r a hm hk hd e1 e2 e3 hI
      rw [hd] at hI
      simp only [szMs] at hI
      have hdr : m.drop (k + 1) = r := by rw [← List.tail_drop, hd]; rfl
      have hx2 := szM_eq x
      have hb := varN_sz x.v
      have hf := foldI_len (varN x.v) a
      have hdl := dedup_len (varN x.v)
      refine .inr ⟨(varN x.v).foldl insS a, ?_, ⟨foldI_ris _ _ hI.1, ?_⟩, ?_⟩
      · simp only [vars_of_l2T, e1, cnd_t, e2, bnd_s, e3, value_Vars_ok x.v (by omega), insL_ok _ a (show a.length + ((varN x.v).foldl addD []).length < _ by omega), onceI _ _ hI.1]
      · rw [hdr]; omega
      · simp only [varNm, varN1_eq, List.foldl_append]) (s := (l, 0)) (a := l) rfl ⟨hr, by simp; omega⟩
  simp only [vars_of_B, key, bnd_s]
theorem writtenDirs_ok (b : GSel → (List Str × Int) → Option ((List Str × Int) ⊕ List Str)) (hb : b = vars_written_l1T ∨ b = vars_written_i1_l1T) (x : GSel) (out : List Str) (hr : Ris out) (h : out.length + bkSl bkDir x.dirs < 1073741824) :
    tloop (b x) (out, 0) = some ((useDs x.dirs).foldl insS out) := by
  have hlen := sumL_len bkDir (fun d => by rw [bkDir_eq]; omega) x.dirs
  have e : bkSl bkDir x.dirs = sumL bkDir x.dirs + 1 := rfl
  exact loop_list (b := b x) x.dirs (fun k (a : List Str) => (a, (k : Int))) (fun r a => (useDs r).foldl insS a) (fun k a => Ris a ∧ a.length + sumL bkDir (x.dirs.drop k) < 1073741824) (by show x.dirs.length < _; omega)
    (by intro a _; rcases hb with rfl | rfl <;> simp [vars_written_l1T, vars_written_i1_l1T, useDs])
    (by
      intro k d r a hm hk hd e1 e2 e3 hI
      rw [hd] at hI
      simp only [sumL] at hI
      have hdr : x.dirs.drop (k + 1) = r := by rw [← List.tail_drop, hd]; rfl
      have hb1 := bkDir_eq d
      have hb2 := varNm_bk d.args
      have hf := foldI_len (varNm d.args) a
      refine .inr ⟨(varNm d.args).foldl insS a, ?_, ⟨foldI_ris _ _ hI.1, ?_⟩, ?_⟩
      · rcases hb with rfl | rfl <;> simp only [vars_written_l1T, vars_written_i1_l1T, e1, cnd_t, e2, bnd_s, e3, vars_of_ok d.args a hI.1 (by omega)]
      · rw [hdr]; omega
      · simp only [useDs, List.foldl_append]) (s := (out, 0)) (a := out) rfl ⟨hr, by simp; omega⟩
theorem written_i1_ok' : ∀ (n : Nat) (l : List GSel) (out : List Str), Ris out → bkSels l ≤ n → out.length + bkSels l < 1073741824 → vars_written_i1 out l = some ((useS l).foldl insS out) := by
  intro n
  induction n with
  | zero =>
    intro l out hr h hl
    have := bkSels_len l
    have hs : l = [] := List.length_eq_zero_iff.1 (by omega)
    subst hs
    apply vars_written_i1_run
    unfold vars_written_i1_B
    rw [tloop_exit (r := out) (by simp [vars_written_i1_l2T])]
    rfl
  | succ n ih =>
    intro l out hr h hl
    apply vars_written_i1_run
    unfold vars_written_i1_B
    have hlen := bkSels_len l
    have key := loop_list (b := vars_written_i1_l2T l) l (fun k (a : List Str) => (a, (k : Int))) (fun r a => (useS r).foldl insS a) (fun k a => Ris a ∧ a.length + bkSels (l.drop k) < 1073741824) (by show l.length < _; omega)
      (by intro a _; simp [vars_written_i1_l2T, useS])
      (by
        intro k x r a hm hk hd h1 h2 h3 hI
        rw [hd] at hI
        simp only [bkSels] at hI
        have hdr : l.drop (k + 1) = r := by rw [← List.tail_drop, hd]; rfl
        have hx := bkSels_mem hm
        have hx2 := bkSel_sels x
        have hx3 := bkSel_eq x
        have e3 := bkSels_eq x.sels
        have e4 : bkSl bkSel x.sels = sumL bkSel x.sels + 1 := rfl
        have e5 : bkSl bkDir x.dirs = sumL bkDir x.dirs + 1 := rfl
        have b1 := varNm_bk x.args
        have b2 := useDs_bk x.dirs
        have b3 := useS_bk x.sels
        have f1 := foldI_len (varNm x.args) a
        have f2 := foldI_len (useDs x.dirs) ((varNm x.args).foldl insS a)
        have r1 := foldI_ris (varNm x.args) a hI.1
        have r2 := foldI_ris (useDs x.dirs) _ r1
        refine .inr ⟨(useS1 x).foldl insS a, ?_, ⟨foldI_ris _ _ hI.1, ?_⟩, ?_⟩
        · rw [useS1_eq, List.foldl_append, List.foldl_append]
          simp only [vars_written_i1_l2T, h1, cnd_t, h2, bnd_s, h3, vars_of_ok x.args a hI.1 (by omega), writtenDirs_ok _ (.inr rfl) x ((varNm x.args).foldl insS a) r1 (by omega), ih x.sels ((useDs x.dirs).foldl insS ((varNm x.args).foldl insS a)) r2 (by omega) (by omega)]
        · rw [hdr]
          have := foldI_len (useS1 x) a
          have := useS1_bk x
          omega
        · simp only [useS, List.foldl_append]) (s := (out, 0)) (a := out) rfl ⟨hr, by simpa using hl⟩
    rw [key]; rfl
theorem vars_written_i1_ok (l : List GSel) (out : List Str) (hr : Ris out) (h : out.length + bkSels l < 1073741824) : vars_written_i1 out l = some ((useS l).foldl insS out) := written_i1_ok' _ l out hr (Nat.le_refl _) h
theorem vars_written_ok (l : List GSel) (h : bkSels l < 1073741824) : vars_written l = some ((useS l).foldl insS []) := by
  apply vars_written_run
  unfold vars_written_B
  have hlen := bkSels_len l
  have key := loop_list (b := vars_written_l2T l) l (fun k (a : List Str) => (a, (k : Int))) (fun r a => (useS r).foldl insS a) (fun k a => Ris a ∧ a.length + bkSels (l.drop k) < 1073741824) (by show l.length < _; omega)
    (by intro a _; simp [vars_written_l2T, useS])
    (by
      intro k x r a hm hk hd h1 h2 h3 hI
      rw [hd] at hI
      simp only [bkSels] at hI
      have hdr : l.drop (k + 1) = r := by rw [← List.tail_drop, hd]; rfl
      have hx := bkSels_mem hm
      have hx2 := bkSel_sels x
      have hx3 := bkSel_eq x
      have e3 := bkSels_eq x.sels
      have e4 : bkSl bkSel x.sels = sumL bkSel x.sels + 1 := rfl
      have e5 : bkSl bkDir x.dirs = sumL bkDir x.dirs + 1 := rfl
      have b1 := varNm_bk x.args
      have b2 := useDs_bk x.dirs
      have b3 := useS_bk x.sels
      have f1 := foldI_len (varNm x.args) a
      have f2 := foldI_len (useDs x.dirs) ((varNm x.args).foldl insS a)
      have r1 := foldI_ris (varNm x.args) a hI.1
      have r2 := foldI_ris (useDs x.dirs) _ r1
      refine .inr ⟨(useS1 x).foldl insS a, ?_, ⟨foldI_ris _ _ hI.1, ?_⟩, ?_⟩
      · rw [useS1_eq, List.foldl_append, List.foldl_append]
        simp only [vars_written_l2T, h1, cnd_t, h2, bnd_s, h3, vars_of_ok x.args a hI.1 (by omega), writtenDirs_ok _ (.inl rfl) x ((varNm x.args).foldl insS a) r1 (by omega), vars_written_i1_ok x.sels ((useDs x.dirs).foldl insS ((varNm x.args).foldl insS a)) r2 (by omega)]
      · rw [hdr]
        have := foldI_len (useS1 x) a
        have := useS1_bk x
        omega
      · simp only [useS, List.foldl_append]) (s := ([], 0)) (a := []) rfl ⟨List.Pairwise.nil, by simpa using h⟩
  rw [key]; rfl

/-! the reference sorts in place -/
theorem mod_mid {α : Type} (f : α → α) : ∀ (p : List α) (a : α) (u : List α), (p ++ a :: u).modify p.length f = p ++ f a :: u
  | [], a, u => by simp
  | x :: p, a, u => by simp [mod_mid f p a u]
theorem get_mid {α : Type} (p : List α) (a : α) (u : List α) : (p ++ a :: u)[p.length]? = some a := by simp
theorem insS_new : ∀ (l : List Str) (s : Str), s ∉ l → (insS l s).length = l.length + 1
  | [], s, _ => rfl
  | y :: r, s, h => by
    have h1 : s ∉ r := fun hh => h (by simp [hh])
    simp only [insS]
    split
    · simp [insS_new r s h1]
    · split
      · rename_i e; exact absurd (by simp [e]) h
      · simp
theorem sink_ok (y2 S : List Str) (x : Str) (q : List Str) (hS : Ris S) (hx : x ∉ S) (hl : y2.length = S.length + 1 + q.length) (hb : y2.length < 1073741824) :
    tloop (seineref13_Sorted_l1T y2) ((S.length : Int), S ++ x :: q) = some (insS S x ++ q) := by
  obtain ⟨r, hr, hq⟩ := tloop_inv (b := seineref13_Sorted_l1T y2)
    (I := fun s => ∃ p t : List Str, s.1 = (p.length : Int) ∧ s.2 = p ++ x :: (t ++ q) ∧ p ++ t = S ∧ ∀ y ∈ t, x < y)
    (m := fun s => s.1.toNat) (Q := fun r => r = insS S x ++ q)
    (by
      rintro ⟨k, b⟩ ⟨p, t, h1, h2, h3, h4⟩
      simp only at h1 h2
      subst h1 h2
      have fin : Ris (p ++ x :: t) → p ++ x :: (t ++ q) = insS S x ++ q := by
        intro hR
        have : p ++ x :: t = insS S x := ris_ext _ _ hR (insS_ris S x hS) fun z => by
          rw [insS_mem, ← h3]; simp only [List.mem_append, List.mem_cons]
          constructor
          · rintro (h | h | h)
            · exact .inl (.inl h)
            · exact .inr h
            · exact .inl (.inr h)
          · rintro ((h | h) | h)
            · exact .inl h
            · exact .inr (.inr h)
            · exact .inr (.inl h)
        rw [← this]; simp
      rcases List.eq_nil_or_concat p with hp | ⟨p', z, hp⟩
      · subst hp
        left
        refine ⟨_, by simp only [seineref13_Sorted_l1T]; rw [show decide (((List.length ([] : List Str) : Nat) : Int) > 0) = false from rfl]; rfl, fin ?_⟩
        have : t = S := h3
        subst this
        exact List.pairwise_cons.2 ⟨h4, hS⟩
      · rw [List.concat_eq_append] at hp
        subst hp
        have hlen : p'.length + 1 + t.length = S.length := by rw [← h3]; simp; omega
        have e0 : decide (((List.length (p' ++ [z]) : Nat) : Int) > 0) = true := by rw [decide_eq_true_eq, List.length_append, List.length_singleton]; omega
        have e1 : tixR (List.length y2) ((List.length (p' ++ [z]) : Nat) : Int) = some (p' ++ [z]).length := by
          rw [tixR_ok (by simp; omega)]; simp
        have ew : IntKind.wrap .i64 (((List.length (p' ++ [z]) : Nat) : Int) - 1) = (p'.length : Int) := by rw [wi (by simp; omega)]; simp
        have e2 : tixR (List.length y2) (p'.length : Int) = some p'.length := by
          rw [tixR_ok (by omega)]; simp
        have g1 : tget ((p' ++ [z]) ++ x :: (t ++ q)) (p' ++ [z]).length (fun z : Str => z) = some x := by unfold tget; rw [get_mid]; rfl
        have g2 : tget ((p' ++ [z]) ++ x :: (t ++ q)) p'.length (fun z : Str => z) = some z := by unfold tget; rw [List.append_assoc, List.singleton_append, get_mid]; rfl
        have u1 : tput ((p' ++ [z]) ++ x :: (t ++ q)) (p' ++ [z]).length (fun _ : Str => z) = some ((p' ++ [z]) ++ z :: (t ++ q)) := by rw [tput_ok (by simp), mod_mid]
        have u2 : tput ((p' ++ [z]) ++ z :: (t ++ q)) p'.length (fun _ : Str => x) = some (p' ++ x :: z :: (t ++ q)) := by
          rw [List.append_assoc, List.singleton_append, tput_ok (by simp), mod_mid]
        cases hl : Op.bytesLess x z
        · left
          refine ⟨_, by simp only [seineref13_Sorted_l1T, e0, cnd_t, e1, bnd_s, g1, ew, e2, g2, hl, cnd_f], fin ?_⟩
          have hzS : z ∈ S := by rw [← h3]; simp
          have hne : z ≠ x := fun e => hx (e ▸ hzS)
          have hzx : z < x := by
            rcases Std.lt_trichotomy z x with h | h | h
            · exact h
            · exact absurd h hne
            · rw [← bl_iff, hl] at h; simp at h
          rw [← h3] at hS
          have hS' := List.pairwise_append.1 hS
          refine List.pairwise_append.2 ⟨hS'.1, List.pairwise_cons.2 ⟨h4, hS'.2.1⟩, fun a ha b hb => ?_⟩
          have hax : a < x := by
            rcases List.mem_append.1 ha with h | h
            · have := List.pairwise_append.1 hS'.1
              exact List.lt_trans (this.2.2 a h z (by simp)) hzx
            · rw [List.mem_singleton] at h; rw [h]; exact hzx
          rcases List.mem_cons.1 hb with h | h
          · rw [h]; exact hax
          · exact hS'.2.2 a ha b h
        · right
          refine ⟨((p'.length : Int), p' ++ x :: (([z] ++ t) ++ q)), by simp only [seineref13_Sorted_l1T, e0, cnd_t, e1, bnd_s, g1, ew, e2, g2, hl, u1, u2]; simp, ⟨p', [z] ++ t, rfl, rfl, ?_, ?_⟩, ?_⟩
          · rw [← h3]; simp
          · intro y hy
            rcases List.mem_append.1 hy with h | h
            · rw [List.mem_singleton] at h; rw [h]; exact (bl_iff _ _).1 hl
            · exact h4 y h
          · simp)
    ((S.length : Int), S ++ x :: q) ⟨S, [], rfl, by simp, by simp, by simp⟩
  rw [hr, hq]
theorem foldI_nodup_len (l : List Str) (hn : l.Nodup) : (l.foldl insS []).length = l.length := by
  have key : ∀ (l a : List Str), l.Nodup → (∀ x ∈ l, x ∉ a) → (l.foldl insS a).length = a.length + l.length := by
    intro l
    induction l with
    | nil => intro a _ _; simp
    | cons x l ih =>
      intro a hn ha
      have hn' := List.nodup_cons.1 hn
      rw [List.foldl_cons, ih (insS a x) hn'.2 (fun y hy => by
        rw [insS_mem]; rintro (h | h)
        · exact ha y (by simp [hy]) h
        · exact hn'.1 (h ▸ hy)), insS_new a x (ha x (by simp)), List.length_cons]
      omega
  simpa using key l [] hn (by simp)
theorem seineref13_Sorted_ok (l : List Str) (hn : l.Nodup) (h : l.length < 1073741824) : seineref13_Sorted l = some (l.foldl insS []) := by
  apply seineref13_Sorted_run
  have hc : tapl l = some l := tapl_ok (by rw [lim_val]; omega)
  have hfl := foldI_nodup_len l hn
  have done : tloop (seineref13_Sorted_l2T l) (1, l) = some (l.foldl insS []) := by
    obtain ⟨r, hr, hq⟩ := tloop_inv (b := seineref13_Sorted_l2T l)
      (I := fun s => ∃ i : Nat, s.1 = (i : Int) ∧ 1 ≤ i ∧ (i ≤ l.length ∨ l = []) ∧ s.2 = (l.take i).foldl insS [] ++ l.drop i)
      (m := fun s => l.length - s.1.toNat) (Q := fun r => r = l.foldl insS [])
      (by
        rintro ⟨i', b⟩ ⟨i, h1, h2, h3, h4⟩
        simp only at h1 h4
        subst h1 h4
        by_cases hi : i < l.length
        · right
          have e1 : decide ((i : Int) < ((List.length l : Nat) : Int)) = true := by simp; omega
          have e3 : IntKind.wrap .i64 ((i : Int) + 1) = ((i + 1 : Nat) : Int) := wadd (by omega)
          have hd : l.drop i = l[i] :: l.drop (i + 1) := List.drop_eq_getElem_cons hi
          have htn : (l.take i).Nodup := hn.sublist (List.take_sublist _ _)
          have hSl : ((l.take i).foldl insS []).length = i := by rw [foldI_nodup_len _ htn, List.length_take]; omega
          have hnx : l[i] ∉ (l.take i).foldl insS [] := by
            rw [foldI_mem]
            rintro (h | h)
            · simp at h
            · have hsplit : (l.take i ++ l.drop i).Nodup := by rw [List.take_append_drop]; exact hn
              exact (List.nodup_append.1 hsplit).2.2 _ h _ (by rw [hd]; exact List.mem_cons_self) rfl
          have hs := sink_ok l ((l.take i).foldl insS []) l[i] (l.drop (i + 1)) (foldI_ris _ _ List.Pairwise.nil) hnx (by rw [hSl, List.length_drop]; omega) h
          rw [hSl] at hs
          refine ⟨(((i + 1 : Nat) : Int), insS ((l.take i).foldl insS []) l[i] ++ l.drop (i + 1)), ?_, ⟨i + 1, rfl, by omega, by omega, ?_⟩, ?_⟩
          · simp only [seineref13_Sorted_l2T, e1, cnd_t, hd, hs, bnd_s, e3]
          · simp only
            rw [List.take_succ_eq_append_getElem hi, List.foldl_append]; rfl
          · simp only [Int.toNat_natCast]; omega
        · left
          have e1 : decide ((i : Int) < ((List.length l : Nat) : Int)) = false := by simp; omega
          refine ⟨_, by simp only [seineref13_Sorted_l2T, e1, cnd_f]; rfl, ?_⟩
          rw [List.take_of_length_le (by omega), List.drop_eq_nil_of_le (by omega), List.append_nil])
      (1, l) ⟨1, rfl, Nat.le_refl _, by cases l <;> simp, by cases l <;> simp [insS]⟩
    rw [hr, hq]
  simp only [seineref13_Sorted_B, hc, bnd_s, done, hfl]
  rw [show Nat.ble l.length l.length = true by simp, cnd_t, List.take_of_length_le (by omega)]
end Go.Proofs.Ytphmfillajagdaa

/-
  What is reached, by the reference; what both gather; VarsUses, VarsJoins.
-/
set_option linter.unusedVariables false
set_option linter.unusedSimpArgs false
open Go Go.Ev
namespace Go.Proofs.Ytphmfillajagdaa

theorem seineref13_Frag_ok (d : GDoc) (n : Str) (hl : Sm d.frags) : seineref13_Frag d n = some (fragD d n) := by
  apply seineref13_Frag_run
  have key := loop_find (b := seineref13_Frag_l1T d n) d.frags (fun f => if f.name == n then some (Sum.inr (f.name, f.on_, f.dirs, f.sels)) else none) (.inl ()) hl
    (by simp [seineref13_Frag_l1T])
    (by
      intro k x hm e1 e2 e3
      simp only [seineref13_Frag_l1T, e1, cnd_t, e2, bnd_s, e3]
      cases x.name == n <;> rfl)
  have hf := find_some d.frags (fun f => f.name == n) (fun f => (Sum.inr (f.name, f.on_, f.dirs, f.sels) : Unit ⊕ (Str × Str × (List GDir) × (List GSel))))
  rw [hf] at key
  simp only [seineref13_Frag_B, key, bnd_s, fragD]
  cases d.frags.find? (fun f => f.name == n) <;> rfl
theorem spreads_ok' : ∀ (n : Nat) (sels : List GSel) (l : List Str), bkSels sels ≤ n → l.length + bkSels sels < 1073741824 → seineref13_spreads sels l = some ((namesS sels).foldl addD l) := by
  intro n
  induction n with
  | zero =>
    intro sels l h hl
    have := bkSels_len sels
    have hs : sels = [] := List.length_eq_zero_iff.1 (by omega)
    subst hs
    apply seineref13_spreads_run
    unfold seineref13_spreads_B
    rw [tloop_exit (r := l) (by simp [seineref13_spreads_l1T])]
    rfl
  | succ n ih =>
    intro sels l h hl
    apply seineref13_spreads_run
    unfold seineref13_spreads_B
    have hlen := bkSels_len sels
    have key := loop_list (b := seineref13_spreads_l1T sels) sels (fun k (a : List Str) => (a, (k : Int))) (fun r a => (namesS r).foldl addD a) (fun k a => a.length + bkSels (sels.drop k) < 1073741824) (by show sels.length < _; omega)
      (by intro a _; simp [seineref13_spreads_l1T, namesS])
      (by
        intro k x r a hm hk hd h1 h2 h3 hI
        rw [hd] at hI
        simp only [bkSels] at hI
        have hdr : sels.drop (k + 1) = r := by rw [← List.tail_drop, hd]; rfl
        have hx := bkSels_mem hm
        have hx2 := bkSel_sels x
        have hrec : ∀ a' : List Str, a'.length ≤ a.length + 1 → seineref13_spreads x.sels a' = some ((namesS x.sels).foldl addD a') := fun a' ha' => ih x.sels a' (by omega) (by omega)
        have hb := namesS1_bk x
        refine .inr ⟨(namesS1 x).foldl addD a, ?_, ?_, ?_⟩
        · rw [namesS1_eq]
          simp only [seineref13_spreads_l1T, h1, cnd_t, h2, bnd_s, h3, seineref1_Has_ok a x.name (by show a.length < _; omega), hrec a (by omega)]
          cases x.kind == 1
          · rfl
          · have ht : tapp a [x.name] = some (a ++ [x.name]) := tapp_ok (by simp [lim_val]; omega)
            simp only [cnd_t, cond_true, List.cons_append, List.nil_append, List.foldl_cons, addD, ht, bnd_s, hrec (a ++ [x.name]) (by simp)]
            cases a.contains x.name <;> rfl
        · rw [hdr]
          have := foldA_len (namesS1 x) a
          omega
        · simp only [namesS, List.foldl_append]) (s := (l, 0)) (a := l) rfl (by simpa using hl)
    rw [key]; rfl
theorem seineref13_spreads_ok (sels : List GSel) (l : List Str) (h : l.length + bkSels sels < 1073741824) : seineref13_spreads sels l = some ((namesS sels).foldl addD l) := spreads_ok' _ sels l (Nat.le_refl _) h
theorem seineref13_Spreads_ok (sels : List GSel) (h : bkSels sels < 1073741824) : seineref13_Spreads sels = some ((namesS sels).foldl addD []) :=
  seineref13_Spreads_run (by simp only [seineref13_Spreads_B, seineref13_spreads_ok sels [] (by simpa using h), bnd_s])
theorem reached13_ok (d : GDoc) (sels : List GSel) (hd : bkDoc d + bkSels sels < 500000000) :
    ∃ l, tloop (seineref13_Reach_l1T d) ((namesS sels).foldl addD [], 0) = some l ∧ l.length < 1073741824 ∧ (∀ n ∈ namesS sels, n ∈ l) ∧ ClosedP d (· ∈ l) ∧ ∀ S : Str → Prop, (∀ n ∈ namesS sels, S n) → ClosedP d S → ∀ n ∈ l, S n := by
  have hU : (allN d sels).length ≤ bkDoc d + bkSels sels := by
    have h1 := namesS_bk sels
    have h2 := flat_len d.frags
    have h3 := bkDoc_frags d
    simp only [allN, List.length_append]; omega
  have hf := frags_len d
  have hsm : Sm d.frags := by show d.frags.length < _; omega
  have hsub : ∀ (l : List Str), l.Nodup → (∀ x ∈ l, x ∈ allN d sels) → l.length ≤ bkDoc d + bkSels sels := fun l h1 h2 => Nat.le_trans (nodup_len l _ h1 h2) hU
  refine tloop_inv (b := seineref13_Reach_l1T d)
    (I := fun s => ∃ i : Nat, s.2 = (i : Int) ∧ i ≤ s.1.length ∧ s.1.Nodup ∧ (∀ x ∈ s.1, x ∈ allN d sels) ∧ (∀ n ∈ namesS sels, n ∈ s.1) ∧
      (∀ (j : Nat) (n : Str), j < i → s.1[j]? = some n → (fragD d n).2 = true → ∀ m ∈ namesS (fragD d n).1.sels, m ∈ s.1) ∧ (∀ S : Str → Prop, (∀ n ∈ namesS sels, S n) → ClosedP d S → ∀ n ∈ s.1, S n))
    (m := fun s => bkDoc d + bkSels sels + 1 - s.2.toNat)
    (Q := fun l => l.length < 1073741824 ∧ (∀ n ∈ namesS sels, n ∈ l) ∧ ClosedP d (· ∈ l) ∧ ∀ S : Str → Prop, (∀ n ∈ namesS sels, S n) → ClosedP d S → ∀ n ∈ l, S n)
    (by
      rintro ⟨l, i'⟩ ⟨i, hi, hle, hnd, hall, hin, hcl, hmin⟩
      simp only at hi hle hnd hall hin hcl hmin
      subst hi
      have hlen := hsub l hnd hall
      by_cases hil : l.length ≤ i
      · left
        refine ⟨l, ?_, by omega, hin, ?_, hmin⟩
        · have e1 : decide ((i : Int) < (List.length l : Int)) = false := by simp; omega
          simp only [seineref13_Reach_l1T, e1, cnd_f]
        · intro n hn hfr m hm
          obtain ⟨j, hj⟩ := List.mem_iff_getElem?.1 hn
          have hjl := (List.getElem?_eq_some_iff.1 hj).1
          exact hcl j n (by omega) hj hfr m hm
      · right
        have e1 : decide ((i : Int) < (List.length l : Int)) = true := by simp; omega
        have hx := List.getElem?_eq_getElem (show i < l.length by omega)
        have e3 : IntKind.wrap .i64 ((i : Int) + 1) = ((i + 1 : Nat) : Int) := wadd (by omega)
        cases hfr : (fragD d l[i]).2
        · refine ⟨(l, ((i + 1 : Nat) : Int)), ?_, ⟨i + 1, rfl, by simp only; omega, hnd, hall, hin, ?_, hmin⟩, ?_⟩
          · simp only [seineref13_Reach_l1T, e1, cnd_t, nthI_nat, hx, bnd_s, seineref13_Frag_ok d _ hsm, hfr, cnd_f, e3]
          · intro j n hj hjn hfn
            by_cases hji : j = i
            · subst hji
              rw [hx] at hjn; cases hjn
              rw [hfr] at hfn; simp at hfn
            · exact hcl j n (by omega) hjn hfn
          · simp only [Int.toNat_natCast]; omega
        · obtain ⟨hfm, _⟩ := fragD_mem hfr
          have hfb := sumL_mem bkFrag hfm
          have hfs : bkSels (fragD d l[i]).1.sels ≤ bkFrag (fragD d l[i]).1 := by rw [bkFrag_eq, bkSels_eq]; simp only [bkSl]; omega
          have hdf := bkDoc_frags d
          have hsp := seineref13_spreads_ok (fragD d l[i]).1.sels l (by omega)
          obtain ⟨t, ht⟩ := foldA_prefix (namesS (fragD d l[i]).1.sels) l
          refine ⟨((namesS (fragD d l[i]).1.sels).foldl addD l, ((i + 1 : Nat) : Int)), ?_, ⟨i + 1, rfl, by simp only; rw [ht]; simp only [List.length_append]; omega, foldA_nodup _ _ hnd, ?_, ?_, ?_, ?_⟩, ?_⟩
          · simp only [seineref13_Reach_l1T, e1, cnd_t, nthI_nat, hx, bnd_s, seineref13_Frag_ok d _ hsm, hfr, hsp, e3]
          · intro x hxm
            rcases (foldA_mem _ _ _).1 hxm with h | h
            · exact hall x h
            · exact List.mem_append_right _ (List.mem_flatMap.2 ⟨_, hfm, h⟩)
          · intro n hn; exact (foldA_mem _ _ _).2 (.inl (hin n hn))
          · intro j n hj hjn hfn m hm
            simp only at hjn ⊢
            rw [ht] at hjn
            rw [foldA_mem]
            by_cases hji : j = i
            · subst hji
              rw [List.getElem?_append_left (by omega), hx] at hjn; cases hjn
              exact .inr hm
            · rw [List.getElem?_append_left (by omega)] at hjn
              exact .inl (hcl j n (by omega) hjn hfn m hm)
          · intro S h1 h2 n hn
            rcases (foldA_mem _ _ _).1 hn with h | h
            · exact hmin S h1 h2 n h
            · exact h2 l[i] (hmin S h1 h2 _ (List.getElem_mem _)) hfr n h
          · simp only [Int.toNat_natCast]; omega)
    ((namesS sels).foldl addD [], 0)
    ⟨0, rfl, Nat.zero_le _, foldA_nodup _ _ List.nodup_nil, (fun x hx => by
      rcases (foldA_mem _ _ _).1 hx with h | h
      · simp at h
      · exact List.mem_append_left _ h), (fun n hn => (foldA_mem _ _ _).2 (.inr hn)), (fun j n hj => by omega), (fun S h1 _ n hn => by
      rcases (foldA_mem _ _ _).1 hn with h | h
      · simp at h
      · exact h1 n h)⟩
theorem seineref13_Reach_ok (d : GDoc) (sels : List GSel) (hd : bkDoc d + bkSels sels < 500000000) :
    ∃ (r l : List Str), seineref13_Reach d sels = some r ∧ r.Nodup ∧ r.length < 1073741824 ∧ (∀ n, n ∈ r ↔ n ∈ l ∧ (fragD d n).2 = true) ∧ (∀ n ∈ namesS sels, n ∈ l) ∧ ClosedP d (· ∈ l) ∧ ∀ S : Str → Prop, (∀ n ∈ namesS sels, S n) → ClosedP d S → ∀ n ∈ l, S n := by
  obtain ⟨l, h1, h2, h3, h4, h5⟩ := reached13_ok d sels hd
  have hf := frags_len d
  have key := loop_fold (b := seineref13_Reach_l2T d l) d.frags (fun k (a : List Str) => (a, (k : Int))) (fun a f => bif l.contains f.name then addD a f.name else a) id (fun k a => a.length ≤ k) (by show d.frags.length < _; omega)
    (by intro a _; simp [seineref13_Reach_l2T])
    (by
      intro k x a hm hk e1 e2 e3 hI
      have ht : tapp a [x.name] = some (a ++ [x.name]) := tapp_ok (by simp [lim_val]; omega)
      simp only [seineref13_Reach_l2T, e1, cnd_t, e2, bnd_s, e3, seineref1_Has_ok l x.name (by show l.length < _; omega), seineref1_Has_ok a x.name (by show a.length < _; omega), ht]
      cases l.contains x.name
      · exact ⟨rfl, by simp only [cond_false]; omega⟩
      · simp only [cnd_t, cond_true, addD]
        cases a.contains x.name
        · exact ⟨rfl, by simp; omega⟩
        · exact ⟨rfl, by simp; omega⟩) (s := ([], 0)) (a := []) rfl (by simp)
  have fold : ∀ (fs : List GFrag) (a : List Str), (a.Nodup → (fs.foldl (fun a f => bif l.contains f.name then addD a f.name else a) a).Nodup) ∧ (fs.foldl (fun a f => bif l.contains f.name then addD a f.name else a) a).length ≤ a.length + fs.length ∧
      ∀ n, n ∈ fs.foldl (fun a f => bif l.contains f.name then addD a f.name else a) a ↔ n ∈ a ∨ ∃ f ∈ fs, n ∈ l ∧ f.name = n := by
    intro fs
    induction fs with
    | nil => intro a; simp
    | cons f fs ih =>
      intro a
      rw [List.foldl_cons]
      obtain ⟨i1, i2, i3⟩ := ih (bif l.contains f.name then addD a f.name else a)
      refine ⟨fun hn => i1 ?_, ?_, fun n => ?_⟩
      · cases l.contains f.name
        · exact hn
        · exact addD_nodup hn
      · have := addD_len a f.name
        cases hc : l.contains f.name <;> rw [hc] at i2 <;> simp only [cond_true, cond_false, List.length_cons] at i2 ⊢ <;> omega
      · rw [i3]
        cases hc : l.contains f.name
        · have hn : f.name ∉ l := by simpa using hc
          simp only [cond_false, List.mem_cons, exists_eq_or_imp]
          constructor
          · rintro (h | h)
            · exact .inl h
            · exact .inr (.inr h)
          · rintro (h | ⟨h, e⟩ | h)
            · exact .inl h
            · exact absurd (e ▸ h) hn
            · exact .inr h
        · have hn : f.name ∈ l := by simpa using hc
          simp only [cond_true, addD_sub, List.mem_cons, exists_eq_or_imp]
          constructor
          · rintro ((h | h) | h)
            · exact .inl h
            · exact .inr (.inl ⟨h ▸ hn, h.symm⟩)
            · exact .inr (.inr h)
          · rintro (h | ⟨h, e⟩ | h)
            · exact .inl (.inl h)
            · exact .inl (.inr e.symm)
            · exact .inr h
  obtain ⟨f1, f2, f3⟩ := fold d.frags []
  refine ⟨_, l, seineref13_Reach_run (by simp only [seineref13_Reach_B, seineref13_Spreads_ok sels (by omega), h1, bnd_s, key]; rfl), f1 List.nodup_nil, ?_, ?_, h3, h4, h5⟩
  · simp only [List.length_nil] at f2; omega
  · intro n
    rw [f3]
    constructor
    · rintro (h | ⟨f, hf, hn, e⟩)
      · simp at h
      · exact ⟨hn, e ▸ fragD_of hf⟩
    · rintro ⟨hn, hfr⟩
      obtain ⟨hm, hname⟩ := fragD_mem hfr
      exact .inr ⟨_, hm, hn, hname⟩

/-! what is gathered -/
def allU (d : GDoc) (l : List GSel) : List Str := useS l ++ d.frags.flatMap fun f => useS f.sels
theorem frag_sels_bk (f : GFrag) : bkSels f.sels ≤ bkFrag f := by rw [bkFrag_eq, bkSels_eq]; simp only [bkSl]; omega
theorem flatU_len : ∀ l : List GFrag, (l.flatMap fun f => useS f.sels).length ≤ sumL bkFrag l
  | [] => by simp [sumL]
  | f :: l => by
    have h1 := flatU_len l
    have h2 := useS_bk f.sels
    have h3 := frag_sels_bk f
    simp only [List.flatMap_cons, List.length_append, sumL]; omega
theorem allU_len (d : GDoc) (l : List GSel) : (allU d l).length ≤ bkDoc d + bkSels l := by
  have h1 := useS_bk l
  have h2 := flatU_len d.frags
  have h3 := bkDoc_frags d
  simp only [allU, List.length_append]; omega
theorem vars_Uses_ok (d : GDoc) (l : List GSel) (r : List Str) (hg : graph_Reach d l = some r) (hrl : r.length < 1073741824) (hf : ∀ n ∈ r, (fragD d n).2 = true) (hd : bkDoc d + bkSels l < 400000000) :
    ∃ u, vars_Uses d l = some u ∧ Ris u ∧ u.length ≤ bkDoc d + bkSels l ∧ ∀ x, x ∈ u ↔ x ∈ useS l ∨ ∃ n ∈ r, x ∈ useS (fragD d n).1.sels := by
  have hfl := frags_len d
  have hsm : Sm d.frags := by show d.frags.length < _; omega
  have hdf := bkDoc_frags d
  have hU := allU_len d l
  have key := loop_fold (b := vars_Uses_l1T d r) r (fun k (a : List Str) => (a, (k : Int))) (fun a n => (useS (fragD d n).1.sels).foldl insS a) id (fun k a => Ris a ∧ ∀ x ∈ a, x ∈ allU d l) (by show r.length < _; omega)
    (by intro a _; simp [vars_Uses_l1T])
    (by
      intro k n a hm hk e1 e2 e3 hI
      obtain ⟨hfm, _⟩ := fragD_mem (hf n hm)
      have hfb := sumL_mem bkFrag hfm
      have hfs := frag_sels_bk (fragD d n).1
      have hal := nodup_len a _ hI.1.nodup hI.2
      refine ⟨?_, foldI_ris _ _ hI.1, fun x hx => ?_⟩
      · simp only [vars_Uses_l1T, e1, cnd_t, e2, bnd_s, e3, graph_Frag_ok d n hsm, vars_written_i1_ok (fragD d n).1.sels a hI.1 (by omega)]
      · rcases (foldI_mem _ _ _).1 hx with h | h
        · exact hI.2 x h
        · exact List.mem_append_right _ (List.mem_flatMap.2 ⟨_, hfm, h⟩)) (s := ((useS l).foldl insS [], 0)) (a := (useS l).foldl insS []) rfl ⟨foldI_ris _ _ List.Pairwise.nil, fun x hx => by
        rcases (foldI_mem _ _ _).1 hx with h | h
        · simp at h
        · exact List.mem_append_left _ h⟩
  have fold : ∀ (ns a : List Str), (Ris a → Ris (ns.foldl (fun a n => (useS (fragD d n).1.sels).foldl insS a) a)) ∧ ∀ x, x ∈ ns.foldl (fun a n => (useS (fragD d n).1.sels).foldl insS a) a ↔ x ∈ a ∨ ∃ n ∈ ns, x ∈ useS (fragD d n).1.sels := by
    intro ns
    induction ns with
    | nil => intro a; simp
    | cons n ns ih =>
      intro a
      rw [List.foldl_cons]
      obtain ⟨i1, i2⟩ := ih ((useS (fragD d n).1.sels).foldl insS a)
      refine ⟨fun h => i1 (foldI_ris _ _ h), fun x => ?_⟩
      rw [i2, foldI_mem]; simp only [List.mem_cons, exists_eq_or_imp, or_assoc]
  obtain ⟨f1, f2⟩ := fold r ((useS l).foldl insS [])
  have hmem : ∀ x, x ∈ r.foldl (fun a n => (useS (fragD d n).1.sels).foldl insS a) ((useS l).foldl insS []) ↔ x ∈ useS l ∨ ∃ n ∈ r, x ∈ useS (fragD d n).1.sels := by
    intro x; rw [f2, foldI_mem]; simp
  have hR := f1 (foldI_ris _ _ List.Pairwise.nil)
  refine ⟨_, vars_Uses_run (by simp only [vars_Uses_B, vars_written_ok l (by omega), hg, bnd_s, key]; rfl), hR, ?_, hmem⟩
  refine Nat.le_trans (nodup_len _ (allU d l) hR.nodup fun x hx => ?_) hU
  rcases (hmem x).1 hx with h | ⟨n, hn, h⟩
  · exact List.mem_append_left _ h
  · exact List.mem_append_right _ (List.mem_flatMap.2 ⟨_, (fragD_mem (hf n hn)).1, h⟩)
theorem seineref13_Uses_ok (d : GDoc) (l : List GSel) (r : List Str) (hg : seineref13_Reach d l = some r) (hrl : r.length < 1073741824) (hf : ∀ n ∈ r, (fragD d n).2 = true) (hd : bkDoc d + bkSels l < 400000000) :
    ∃ u, seineref13_Uses d l = some u ∧ Ris u ∧ ∀ x, x ∈ u ↔ x ∈ useS l ∨ ∃ n ∈ r, x ∈ useS (fragD d n).1.sels := by
  have hfl := frags_len d
  have hsm : Sm d.frags := by show d.frags.length < _; omega
  have hdf := bkDoc_frags d
  have hU := allU_len d l
  have key := loop_fold (b := seineref13_Uses_l1T d r) r (fun k (a : List Str) => (a, (k : Int))) (fun a n => (useS (fragD d n).1.sels).foldl addD a) id (fun k a => a.Nodup ∧ ∀ x ∈ a, x ∈ allU d l) (by show r.length < _; omega)
    (by intro a _; simp [seineref13_Uses_l1T])
    (by
      intro k n a hm hk e1 e2 e3 hI
      obtain ⟨hfm, _⟩ := fragD_mem (hf n hm)
      have hfb := sumL_mem bkFrag hfm
      have hfs := frag_sels_bk (fragD d n).1
      have hal := nodup_len a _ hI.1 hI.2
      refine ⟨?_, foldA_nodup _ _ hI.1, fun x hx => ?_⟩
      · simp only [seineref13_Uses_l1T, e1, cnd_t, e2, bnd_s, e3, seineref13_Frag_ok d n hsm, seineref13_usedSels_ok (fragD d n).1.sels a (by omega)]
      · rcases (foldA_mem _ _ _).1 hx with h | h
        · exact hI.2 x h
        · exact List.mem_append_right _ (List.mem_flatMap.2 ⟨_, hfm, h⟩)) (s := ((useS l).foldl addD [], 0)) (a := (useS l).foldl addD []) rfl ⟨foldA_nodup _ _ List.nodup_nil, fun x hx => by
        rcases (foldA_mem _ _ _).1 hx with h | h
        · simp at h
        · exact List.mem_append_left _ h⟩
  have fold : ∀ (ns a : List Str), (a.Nodup → (ns.foldl (fun a n => (useS (fragD d n).1.sels).foldl addD a) a).Nodup) ∧ ∀ x, x ∈ ns.foldl (fun a n => (useS (fragD d n).1.sels).foldl addD a) a ↔ x ∈ a ∨ ∃ n ∈ ns, x ∈ useS (fragD d n).1.sels := by
    intro ns
    induction ns with
    | nil => intro a; simp
    | cons n ns ih =>
      intro a
      rw [List.foldl_cons]
      obtain ⟨i1, i2⟩ := ih ((useS (fragD d n).1.sels).foldl addD a)
      refine ⟨fun h => i1 (foldA_nodup _ _ h), fun x => ?_⟩
      rw [i2, foldA_mem]; simp only [List.mem_cons, exists_eq_or_imp, or_assoc]
  obtain ⟨f1, f2⟩ := fold r ((useS l).foldl addD [])
  have hmem : ∀ x, x ∈ r.foldl (fun a n => (useS (fragD d n).1.sels).foldl addD a) ((useS l).foldl addD []) ↔ x ∈ useS l ∨ ∃ n ∈ r, x ∈ useS (fragD d n).1.sels := by
    intro x; rw [f2, foldA_mem]; simp
  have hN := f1 (foldA_nodup _ _ List.nodup_nil)
  have hlen := Nat.le_trans (nodup_len _ (allU d l) hN fun x hx => by
    rcases (hmem x).1 hx with h | ⟨n, hn, h⟩
    · exact List.mem_append_left _ h
    · exact List.mem_append_right _ (List.mem_flatMap.2 ⟨_, (fragD_mem (hf n hn)).1, h⟩)) hU
  have hs := seineref13_Sorted_ok _ hN (by omega)
  refine ⟨_, seineref13_Uses_run (by simp only [seineref13_Uses_B, seineref13_usedSels_ok l [] (show 0 + bkSels l < _ by omega), hg, bnd_s, key, id, hs]; rfl), foldI_ris _ _ List.Pairwise.nil, fun x => ?_⟩
  rw [foldI_mem, hmem]; simp

theorem seinelaw17_awake_ok : seinelaw17_awake = some true := seinelaw17_awake_run 100 (by kernel_rfl)
end Go.Proofs.Ytphmfillajagdaa

/-
  VarsUses, VarsJoins.
-/
set_option linter.unusedVariables false
set_option linter.unusedSimpArgs false
open Go Go.Ev
namespace Go.Proofs.Ytphmfillajagdaa

theorem szArgs (m : List GMember) (h : bkSl bkMember m < 1073741824) : szV ⟨0, 0, [], [], m⟩ < 4611686018427387904 := by
  have h4 := szMs_bk m
  rw [bkMembers_eq] at h4
  simp only [szV, szVs, List.length_nil]
  have h5 : bkSl bkMember m = sumL bkMember m + 1 := rfl
  omega
theorem lightDirs_ex (l : List GDir) (h : bkSl bkDir l < 1073741824) : ∃ n, seinelaw7_lightDirs l = some n := by
  have hl := sl_len (f := bkDir) (fun d => by rw [bkDir_eq]; omega) l
  obtain ⟨r, hr⟩ := loop_ex (b := seinelaw7_lightDirs_l1T l) l (fun k (a : Int) => (a, (k : Int))) (by show l.length < _; omega) (fun a => ⟨a, by simp [seinelaw7_lightDirs_l1T]⟩) (by
    intro k x a hx h1 h2 h3
    have hb := sl_mem (f := bkDir) hx
    rw [bkDir_eq] at hb
    right; simp only [seinelaw7_lightDirs_l1T, h1, cnd_t, h2, bnd_s, h3, seinekeep_Size_ok _ (szArgs x.args (by omega))]; exact ⟨_, rfl⟩) (s := (0, 0)) (a := 0) rfl
  exact ⟨r, seinelaw7_lightDirs_run (by simp only [seinelaw7_lightDirs_B, hr, bnd_s])⟩
theorem lightSels_ex' : ∀ (n : Nat) (l : List GSel), bkSels l ≤ n → n < 1073741824 → ∃ m, seinelaw7_lightSels l = some m := by
  intro n
  induction n with
  | zero =>
    intro l h _
    have := bkSels_len l
    have hs : l = [] := List.length_eq_zero_iff.1 (by omega)
    subst hs
    exact ⟨0, seinelaw7_lightSels_run (by unfold seinelaw7_lightSels_B; rw [tloop_exit (r := 0) (by simp [seinelaw7_lightSels_l1T])]; rfl)⟩
  | succ n ih =>
    intro l h hn
    have hl := bkSels_len l
    obtain ⟨r, hr⟩ := loop_ex (b := seinelaw7_lightSels_l1T l) l (fun k (a : Int) => (a, (k : Int))) (by show l.length < _; omega) (fun a => ⟨a, by simp [seinelaw7_lightSels_l1T]⟩) (by
      intro k x a hx h1 h2 h3
      have hb := bkSels_mem hx
      have hb2 := bkSel_sels x
      have hb3 := hb
      rw [bkSel_eq] at hb3
      obtain ⟨m1, g1⟩ := lightDirs_ex x.dirs (by omega)
      obtain ⟨m2, g2⟩ := ih x.sels (by omega) (by omega)
      right; simp only [seinelaw7_lightSels_l1T, h1, cnd_t, h2, bnd_s, h3, seinekeep_Size_ok _ (szArgs x.args (by omega)), g1, g2]; exact ⟨_, rfl⟩) (s := (0, 0)) (a := 0) rfl
    exact ⟨r, seinelaw7_lightSels_run (by simp only [seinelaw7_lightSels_B, hr, bnd_s])⟩
theorem lightSels_ex (l : List GSel) (h : bkSels l < 1073741824) : ∃ m, seinelaw7_lightSels l = some m := lightSels_ex' _ l (Nat.le_refl _) h
theorem seinelaw7_Light_ex (d : GDoc) (h : bkDoc d < 1073741824) : ∃ b, seinelaw7_Light d = some b := by
  rw [bkDoc_eq] at h
  have ho := sl_len (f := bkOp) (fun d => by rw [bkOp_eq]; omega) d.ops
  have hf := sl_len bkFrag_pos d.frags
  obtain ⟨r, hr⟩ := loop_ex (b := seinelaw7_Light_l2T d) d.ops (fun k (a : Int) => (a, (k : Int))) (by show d.ops.length < _; omega) (fun a => ⟨a, by simp [seinelaw7_Light_l2T]⟩) (by
    intro k o a hx h1 h2 h3
    have hb := sl_mem (f := bkOp) hx
    rw [bkOp_eq] at hb
    obtain ⟨m1, g1⟩ := lightDirs_ex o.dirs (by omega)
    obtain ⟨m2, g2⟩ := lightSels_ex o.sels (by rw [bkSels_eq]; have e : bkSl bkSel o.sels = sumL bkSel o.sels + 1 := rfl; omega)
    have hv := sl_len (f := bkVarDef) (fun d => by rw [bkVarDef_eq]; omega) o.vars
    have hin : ∀ n0 : Int, ∃ n, tloop (seinelaw7_Light_l1T d (k : Int)) (n0, 0) = some n := by
      intro n0
      refine loop_ex (b := seinelaw7_Light_l1T d (k : Int)) o.vars (fun k (a : Int) => (a, (k : Int))) (by show o.vars.length < _; omega) (fun a => ⟨a, by simp [seinelaw7_Light_l1T, h2]⟩) (by
        intro j v a hv h4 h5 h6
        have hvb := sl_mem (f := bkVarDef) hv
        rw [bkVarDef_eq] at hvb
        have hs := szV_bk v.default
        right; simp only [seinelaw7_Light_l1T, h2, bnd_s, h4, cnd_t, h5, h6, seinekeep_Size_ok v.default (by omega)]; exact ⟨_, rfl⟩) (a := n0) rfl
    right
    simp only [seinelaw7_Light_l2T, h1, cnd_t, h2, bnd_s, h3, g1, g2]
    obtain ⟨n, hn⟩ := hin (IntKind.wrap .i64 ((IntKind.wrap .i64 ((IntKind.wrap .i64 ((IntKind.wrap .i64 (a + 1)) + m1)) + m2)) + (List.length o.name : Int)))
    rw [hn]
    exact ⟨n, rfl⟩) (s := (0, 0)) (a := 0) rfl
  obtain ⟨q, hq⟩ := loop_ex (b := seinelaw7_Light_l3T d) d.frags (fun k (a : Int) => (a, (k : Int))) (by show d.frags.length < _; omega) (fun a => ⟨a, by simp [seinelaw7_Light_l3T]⟩) (by
    intro k f a hx h1 h2 h3
    have hb := sl_mem (f := bkFrag) hx
    rw [bkFrag_eq] at hb
    obtain ⟨m1, g1⟩ := lightDirs_ex f.dirs (by omega)
    obtain ⟨m2, g2⟩ := lightSels_ex f.sels (by rw [bkSels_eq]; have e : bkSl bkSel f.sels = sumL bkSel f.sels + 1 := rfl; omega)
    right; simp only [seinelaw7_Light_l3T, h1, cnd_t, h2, bnd_s, h3, g1, g2]; exact ⟨_, rfl⟩) (s := (r, 0)) (a := r) rfl
  exact ⟨decide (q ≤ 3200), seinelaw7_Light_run (by simp only [seinelaw7_Light_B, hr, bnd_s, hq])⟩
theorem bkDoc_one (l : List GSel) : bkDoc ⟨[], [⟨[], [], [], l⟩]⟩ = bkSels l + 8 := by
  rw [bkDoc_eq, bkSels_eq]; simp only [bkSl, sumL, bkFrag_eq, bkStr, List.length_nil]; omega
theorem bkDoc_two (l m : List GSel) : bkDoc ⟨[], [⟨[], [], [], l⟩, ⟨[], [], [], m⟩]⟩ = bkSels l + bkSels m + 13 := by
  rw [bkDoc_eq, bkSels_eq, bkSels_eq]; simp only [bkSl, sumL, bkFrag_eq, bkStr, List.length_nil]; omega

theorem seinelaw17_VarsUses_ok (d : GDoc) (l : List GSel) (h : bkDoc d + bkSels l < 200000000) : seinelaw17_VarsUses d l = some true := by
  apply seinelaw17_VarsUses_run
  obtain ⟨b1, hb1⟩ := seinelaw7_Light_ex d (by omega)
  obtain ⟨b2, hb2⟩ := seinelaw7_Light_ex ⟨[], [⟨[], [], [], l⟩]⟩ (by rw [bkDoc_one]; omega)
  obtain ⟨r1, l1, hr1, _, hl1, hm1, hin1, hcl1, hmin1⟩ := graph_Reach_ok d l (by omega)
  obtain ⟨r2, l2, hr2, _, hl2, hm2, hin2, hcl2, hmin2⟩ := seineref13_Reach_ok d l (by omega)
  obtain ⟨u1, hu1, hR1, hlu, hx1⟩ := vars_Uses_ok d l r1 hr1 hl1 (fun n hn => ((hm1 n).1 hn).2) (by omega)
  obtain ⟨u2, hu2, hR2, hx2⟩ := seineref13_Uses_ok d l r2 hr2 hl2 (fun n hn => ((hm2 n).1 hn).2) (by omega)
  have hr : ∀ n, n ∈ r1 ↔ n ∈ r2 := by
    intro n
    rw [hm1, hm2]
    exact ⟨fun h => ⟨hmin1 (· ∈ l2) hin2 hcl2 n h.1, h.2⟩, fun h => ⟨hmin2 (· ∈ l1) hin1 hcl1 n h.1, h.2⟩⟩
  have hu : u1 = u2 := ris_ext _ _ hR1 hR2 fun x => by
    rw [hx1, hx2]
    constructor
    · rintro (h | ⟨n, hn, h⟩)
      · exact .inl h
      · exact .inr ⟨n, (hr n).1 hn, h⟩
    · rintro (h | ⟨n, hn, h⟩)
      · exact .inl h
      · exact .inr ⟨n, (hr n).2 hn, h⟩
  subst hu
  simp only [seinelaw17_VarsUses_B, hb1, hb2, bnd_s, seinelaw17_awake_ok, hu1, hu2, seinekeep_SameTexts_self u1 (by omega), cnd_t, cnd_same]

theorem seinelaw17_VarsJoins_ok (d : GDoc) (l m : List GSel) (h : bkDoc d + (bkSels l + bkSels m) < 200000000) : seinelaw17_VarsJoins d l m = some true := by
  apply seinelaw17_VarsJoins_run
  obtain ⟨b1, hb1⟩ := seinelaw7_Light_ex d (by omega)
  obtain ⟨b2, hb2⟩ := seinelaw7_Light_ex ⟨[], [⟨[], [], [], l⟩, ⟨[], [], [], m⟩]⟩ (by rw [bkDoc_two]; omega)
  have hlm : bkSels (l ++ m) = bkSels l + bkSels m := by rw [bkSels_eq, bkSels_eq, bkSels_eq, sumL_append]
  obtain ⟨r1, n1, e1, _, rl1, mem1, in1, cl1, min1⟩ := graph_Reach_ok d l (by omega)
  obtain ⟨r2, n2, e2, _, rl2, mem2, in2, cl2, min2⟩ := graph_Reach_ok d m (by omega)
  obtain ⟨r3, n3, e3, _, rl3, mem3, in3, cl3, min3⟩ := graph_Reach_ok d (l ++ m) (by omega)
  have hl := bkSels_len l
  have hm := bkSels_len m
  have t1 : tapp ([] : List GSel) l = some l := by rw [tapp_ok (by simp [lim_val]; omega)]; rfl
  have t2 : tapp l m = some (l ++ m) := tapp_ok (by rw [lim_val]; omega)
  have s1 : ∀ n ∈ n1, n ∈ n3 := min1 (· ∈ n3) (fun n hn => in3 n (by rw [namesS_append]; exact List.mem_append_left _ hn)) cl3
  have s2 : ∀ n ∈ n2, n ∈ n3 := min2 (· ∈ n3) (fun n hn => in3 n (by rw [namesS_append]; exact List.mem_append_right _ hn)) cl3
  have s3 : ∀ n ∈ n3, n ∈ n1 ∨ n ∈ n2 := min3 (fun n => n ∈ n1 ∨ n ∈ n2) (fun n hn => by
    rw [namesS_append] at hn
    rcases List.mem_append.1 hn with h | h
    · exact .inl (in1 n h)
    · exact .inr (in2 n h)) (fun n hn hf k hk => by
    rcases hn with h | h
    · exact .inl (cl1 n h hf k hk)
    · exact .inr (cl2 n h hf k hk))
  have hU : ∀ n, n ∈ r3 ↔ n ∈ r1 ∨ n ∈ r2 := by
    intro n
    rw [mem1, mem2, mem3]
    constructor
    · rintro ⟨h1, h2⟩
      rcases s3 n h1 with h | h
      · exact .inl ⟨h, h2⟩
      · exact .inr ⟨h, h2⟩
    · rintro (⟨h1, h2⟩ | ⟨h1, h2⟩)
      · exact ⟨s1 n h1, h2⟩
      · exact ⟨s2 n h1, h2⟩
  obtain ⟨a, ha, hRa, hla, hxa⟩ := vars_Uses_ok d l r1 e1 rl1 (fun n hn => ((mem1 n).1 hn).2) (by omega)
  obtain ⟨b, hb, hRb, hlb, hxb⟩ := vars_Uses_ok d m r2 e2 rl2 (fun n hn => ((mem2 n).1 hn).2) (by omega)
  obtain ⟨c, hc, hRc, hlc, hxc⟩ := vars_Uses_ok d (l ++ m) r3 e3 rl3 (fun n hn => ((mem3 n).1 hn).2) (by omega)
  have hV : ∀ x, x ∈ c ↔ x ∈ a ∨ x ∈ b := by
    intro x
    rw [hxa, hxb, hxc, useS_append, List.mem_append]
    constructor
    · rintro ((h | h) | ⟨n, hn, h⟩)
      · exact .inl (.inl h)
      · exact .inr (.inl h)
      · rcases (hU n).1 hn with h' | h'
        · exact .inl (.inr ⟨n, h', h⟩)
        · exact .inr (.inr ⟨n, h', h⟩)
    · rintro ((h | ⟨n, hn, h⟩) | (h | ⟨n, hn, h⟩))
      · exact .inl (.inl h)
      · exact .inr ⟨n, (hU n).2 (.inl hn), h⟩
      · exact .inl (.inr h)
      · exact .inr ⟨n, (hU n).2 (.inr hn), h⟩
  have L1 : tloop (seinelaw17_VarsJoins_l1T a b c) 0 = some (.inl ()) := loop_all (b := seinelaw17_VarsJoins_l1T a b c) c (.inl ()) (by show c.length < _; omega) (by simp [seinelaw17_VarsJoins_l1T]) (by
    intro k x hx h1 h2 h3
    have hab : (!a.contains x) = true → (!b.contains x) = false := by
      intro ha'
      rcases (hV x).1 hx with h | h
      · rw [List.contains_iff_mem.2 h] at ha'; simp at ha'
      · rw [List.contains_iff_mem.2 h]; rfl
    have hk : k < c.length := by simpa using h1
    have hck : c[k] = x := by rw [nthI_nat, List.getElem?_eq_getElem hk] at h2; exact Option.some.inj h2
    have ex : ∀ s : Unit ⊕ Unit, cnd (!a.contains x) (cnd (!b.contains x) (some (.inr s)) (some (.inl ((k + 1 : Nat) : Int)))) (some (.inl ((k + 1 : Nat) : Int))) = (some (.inl ((k + 1 : Nat) : Int)) : Option (Int ⊕ (Unit ⊕ Unit))) := by
      intro s
      cases hca : (!a.contains x)
      · rfl
      · rw [hab hca]; rfl
    cases k with
    | zero =>
      have h0 : decide (((0 : Nat) : Int) > 0) = false := by simp
      simp only [seinelaw17_VarsJoins_l1T, h1, cnd_t, h0, cnd_f, h2, bnd_s, h3, seineref1_Has_ok a x (by show a.length < _; omega), seineref1_Has_ok b x (by show b.length < _; omega), ex]
    | succ j =>
      have h0 : decide (((j + 1 : Nat) : Int) > 0) = true := by simp
      have ew : IntKind.wrap .i64 (((j + 1 : Nat) : Int) - 1) = (j : Int) := by rw [wi (by omega)]; omega
      have hj : nthI c (j : Int) = some c[j] := by rw [nthI_nat, List.getElem?_eq_getElem (by omega)]
      have hlt : c[j] < x := by rw [← hck]; exact List.pairwise_iff_getElem.1 hRc j (j + 1) (by omega) hk (by omega)
      have hn1 : Op.bytesLess x c[j] = false := by
        rw [Bool.eq_false_iff]; intro hh; rw [bl_iff] at hh; exact List.lt_irrefl _ (List.lt_trans hh hlt)
      have hn2 : (x == c[j]) = false := by
        rw [Bool.eq_false_iff]; intro hh; rw [beq_iff_eq] at hh; rw [← hh] at hlt; exact List.lt_irrefl _ hlt
      simp only [seinelaw17_VarsJoins_l1T, h1, cnd_t, h0, h2, bnd_s, ew, hj, hn1, hn2, Bool.or_false, cnd_f, h3, seineref1_Has_ok a x (by show a.length < _; omega), seineref1_Has_ok b x (by show b.length < _; omega), ex])
  have L2 : tloop (seinelaw17_VarsJoins_l2T a b) (0, 0) = some (((b.filter fun y => !a.contains y).length : Nat) : Int) := by
    have := loop_list (b := seinelaw17_VarsJoins_l2T a b) b (fun k (a : Nat) => ((a : Int), (k : Int))) (fun r n => ((n + (r.filter fun y => !a.contains y).length : Nat) : Int)) (fun k n => n ≤ k) (by show b.length < _; omega)
      (by intro n _; simp [seinelaw17_VarsJoins_l2T])
      (by
        intro k x r n hm hk hd h1 h2 h3 hI
        have e4 : IntKind.wrap .i64 ((n : Int) + 1) = ((n + 1 : Nat) : Int) := wadd (by omega)
        simp only [seinelaw17_VarsJoins_l2T, h1, cnd_t, h2, bnd_s, h3, seineref1_Has_ok a x (by show a.length < _; omega), e4, List.filter_cons]
        cases a.contains x
        · exact .inr ⟨n + 1, rfl, by omega, by simp; omega⟩
        · exact .inr ⟨n, rfl, by omega, by simp⟩) (s := (0, 0)) (a := 0) rfl (by omega)
    rw [this]; simp
  have hcount : c.length = a.length + (b.filter fun y => !a.contains y).length := by
    have hnd : (a ++ b.filter fun y => !a.contains y).Nodup := by
      refine List.nodup_append.2 ⟨hRa.nodup, hRb.nodup.filter _, fun x hx y hy => ?_⟩
      rw [List.mem_filter] at hy
      intro e
      subst e
      have := hy.2
      simp [hx] at this
    have h1 := nodup_len c (a ++ b.filter fun y => !a.contains y) hRc.nodup (fun x hx => by
      by_cases h : x ∈ a
      · exact List.mem_append_left _ h
      · rcases (hV x).1 hx with h' | h'
        · exact absurd h' h
        · exact List.mem_append_right _ (List.mem_filter.2 ⟨h', by simp [h]⟩))
    have h2 := nodup_len (a ++ b.filter fun y => !a.contains y) c hnd (fun x hx => by
      rcases List.mem_append.1 hx with h | h
      · exact (hV x).2 (.inl h)
      · exact (hV x).2 (.inr (List.mem_filter.1 h).1))
    rw [List.length_append] at h1 h2
    omega
  have hw : IntKind.wrap .i64 ((a.length : Int) + (((b.filter fun y => !a.contains y).length : Nat) : Int)) = (c.length : Int) := by
    rw [wi (by omega), hcount]; omega
  simp only [seinelaw17_VarsJoins_B, hb1, hb2, bnd_s, seinelaw17_awake_ok, ha, hb, t1, t2, hc, L1, elim_inl, L2, hw, beq_self_eq_true, cnd_t, cnd_same]
end Go.Proofs.Ytphmfillajagdaa

/-
  What is asked of the program as a whole.
-/
set_option linter.unusedVariables false
open Go Go.Ev
open Go.ChangeShapes Go.WideShapes Go.ChangeAt Go.RowKit
namespace Go.Proofs.Ytphmfillajagdaa
theorem mixed : Try.prog.follows .mixedOrders = true := by kernel_rfl
theorem names : (Try.prog.funcs.toList.all fun fn => !fn.body.isSome || !(fn.name == "runtime.NumGoroutine")) = true := by kernel_rfl
theorem laid : laidOutB Try.prog = true := by kernel_rfl
theorem pok : POk Try.prog := by
  refine ⟨mixed, fun f fn hf hb => ?_⟩
  have hm : fn ∈ Try.prog.funcs.toList := by
    have := Array.mem_of_getElem? hf
    simpa using this
  have := List.all_eq_true.1 names fn hm
  rw [hb] at this
  simpa using this
theorem blOk {H : Type} : BlOk (H := H) Rows.uptoBulk Rows.uptoBulkAll := by
  refine ⟨fun l => ?_, fun s => ?_, ?_, fun es sp => ?_, fun ps => ?_, fun d r => ?_⟩
  · cases l <;> simp [Rows.uptoBulk]
  · simp [Rows.uptoBulk]
  · simp [Rows.uptoBulk]
  · simp only [Rows.uptoBulk]; omega
  · simp only [Rows.uptoBulk]; omega
  · simp [Rows.uptoBulkAll]
theorem own : ownKnob Try.prog.godebug = none := by kernel_rfl
end Go.Proofs.Ytphmfillajagdaa

/-
  VarsUses: the names of variables that selections use, and what they reach, are the page's, in order. Conditions: none beside the row's own (bulk at most 1048576).
-/
set_option linter.unusedVariables false
open Go Go.Ev
open Go.ChangeShapes Go.WideShapes Go.ChangeAt Go.RowKit
namespace Go.Proofs.Ytphmfillajagdaa
namespace varsUses
def fs : Ty := (.fcons (.ext 8) (.fcons (.sl (.ext 5)) .fnil))
theorem lawF : ∀ x : fs.den RS, good RS fs x → bulkL RS fs x ≤ 1048576 → OL Try.prog MT XT 3 (encL RS fs x) [] = some (.bool true, []) := by
  rintro ⟨x0, x1, _⟩ g b
  have b' : bkDoc x0 + ((bkSl bkSel) x1 + (0)) ≤ 1048576 := b
  obtain ⟨g0, g1, _⟩ := g
  have g0' : gdDoc x0 := g0
  have g1' : (gdSl gdSel) x1 := g1
  have e : encL RS fs (x0, x1, ()) = [encDoc x0, .slice (List.map encSel x1) [] false] := rfl
  rw [e]
  change O 3 _ _ = _
  have h := seinelaw17_VarsUses_spec (seinelaw17_VarsUses_ok x0 x1 (by have e1 := bkSels_eq x1; have e : bkSl bkSel x1 = sumL bkSel x1 + 1 := rfl; omega))
  simpa only [tys, seinelaw17_VarsUsesE] using h
set_option maxRecDepth 100000 in
theorem contract (H : Type) (enc : TypeId × Value → H) (W : World) (base : Nat) (args : Array Value) (ds gs : List (DataW H)) (before : List MemPlace)
    (hval : ∀ (j : Nat) t v, Try.f3.params[j]? = some t → args[j]? = some v → Value.okWide Try.prog W .any base t v)
    (hW : DataW.Whole enc Try.prog Try.f3.params.toList Rows.varsUsesSpec.vars false W args.toList ds gs before) (hk : Rows.uptoSmall H (ds ++ gs) = true) :
    Calls Try.prog 3 args W fun e W' => ∃ v, e = .returned v ∧ Rows.varsUsesSpec.post enc Try.prog Try.f3 false true false false W args v W' := by
  have hg : gs = [] := by
    obtain ⟨p, q, hA, hV, _⟩ := hW
    exact (trodVars_none hV).1
  have hb : Rows.uptoBulkAll ds ≤ 1048576 := by
    have := of_decide_eq_true hk
    simpa [hg] using this
  have hlen : ds.length = 2 := by
    obtain ⟨p, q, hA0, hV, _⟩ := hW
    have hA : DataW.TrodAll enc Try.prog W 0 (fun _ => true) true Try.f3.params.toList args.toList ds p := hA0
    rw [Try.params3] at hA
    obtain ⟨v0, vs0, d0, ds0, p0, q0, h0, rfl, rfl, ht0, r0⟩ := trodAll_cons hA
    obtain ⟨v1, vs1, d1, ds1, p1, q1, h1, rfl, rfl, ht1, r1⟩ := trodAll_cons r0
    obtain ⟨rfl, rfl, rfl⟩ := trodAll_nil r1
    rfl
  refine contract_true pok xok laid blOk Try.func3 rfl (n := 9) (ρ := RS) (τ := TS) (fs := fs) (tb := 4) (by kernel_rfl) (by rw [show Try.f3.resultTypes = #[4] from rfl]) Try.underlying4 rfl (rok enc W blOk) ?_ hval hW hb lawF
  subst hg
  match ds, hlen with
  | [d0, d1], _ => exact ⟨rfl, rfl, rfl⟩
set_option maxRecDepth 100000 in
theorem lifted (os : Os) (started : os.Started) (H : Type) (enc : TypeId × Value → H) (F : Stop.Interp) :
    ReturnsInHanded {} Try.checked os 3 .any ((Rows.OpenSpec.upto Rows.varsUsesSpec).pre6 enc Try.prog Try.f3 Rows.varsUsesUptoRow.domain false) (((Rows.OpenSpec.upto Rows.varsUsesSpec).at F).post enc Try.prog Try.f3 false true false false) := by
  refine returnsInHanded_of_cond (C := Try.checked) (s := Rows.OpenSpec.upto Rows.varsUsesSpec) (k := Rows.uptoSmall) rfl own started (by kernel_rfl) Try.func3
    (OpenSpec.witness (enc := enc) (C := Try.checked) (s := Rows.OpenSpec.upto Rows.varsUsesSpec) (k := Rows.uptoSmall) rfl false ⟨#[], #[.agg #[.slice none 0 0, .slice none 0 0], .slice none 0 0], []⟩ 8 (by kernel_rfl) (by kernel_rfl) (by kernel_rfl)
      (x := ([.agg [.nil, .nil], .nil], [], [])) (by kernel_rfl) rfl (by kernel_rfl)) ?_
  intro W base args ds gs before hval hW _ hk _
  exact contract H enc W base args ds gs before hval hW hk
theorem over : Rows.varsUsesUptoRow.holds Try.pinned (Rows.OpenSpec.upto Rows.varsUsesSpec) :=
  OpenClaim.holds_of_cond 3 Try.f3 rfl rfl rfl rfl rfl rfl rfl ⟨rfl, rfl, rfl, rfl, rfl⟩ rfl rfl rfl rfl rfl (by kernel_rfl) Try.func3 (by kernel_rfl)
    (of_decide_eq_true (by kernel_rfl)) (by unfold Func.isWrapper; first | (rw [if_pos (by decide +kernel)]; kernel_rfl) | (rw [if_neg (by decide +kernel)]; exact ⟨rfl, rfl⟩))
    (fun os started H enc _ F => lifted os started H enc F)
theorem proved : Rows.VarsUsesUptoSaid :=
  over
end varsUses
end Go.Proofs.Ytphmfillajagdaa
