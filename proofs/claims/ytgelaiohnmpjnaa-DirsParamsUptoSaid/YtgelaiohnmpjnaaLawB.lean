/-
  DirsParams: just the two directives are there, each with just one argument. Conditions: none beside the row's own (bulk at most 1048576).
-/
import Derived.Test.YtgelaiohnmpjnaaDGb
import Derived.Test.YtgelaiohnmpjnaaDEd
import Derived.KernelRfl
import Derived.Test.YtgelaiohnmpjnaaDGa
import Derived.Test.YtgelaiohnmpjnaaRows
import Derived.WalkKit
import Derived.ProofKit
import Derived.OpenShut
import Derived.JoinedCond
set_option linter.unusedVariables false
set_option linter.unusedSimpArgs false
/-
  Names: the program's and the reference's are alike.
-/
set_option linter.unusedVariables false
set_option linter.unusedSimpArgs false
open Go Go.Ev
namespace Go.Proofs.Ytgelaiohnmpjnaa

def letter (c : Int) : Bool := (decide (97 ≤ c) && decide (c ≤ 122)) || ((decide (65 ≤ c) && decide (c ≤ 90)) || c == 95)
def digit (c : Int) : Bool := decide (48 ≤ c) && decide (c ≤ 57)
/-- All of these may stand behind a name's first sign. -/
def inName (c : UInt8) : Bool := letter c.toNat || digit c.toNat
def isName : Str → Bool
  | [] => false
  | c :: s => letter c.toNat && s.all inName
end Go.Proofs.Ytgelaiohnmpjnaa

/-
  Sizes of values.
-/
set_option linter.unusedVariables false
set_option linter.unusedSimpArgs false
open Go Go.Ev
namespace Go.Proofs.Ytgelaiohnmpjnaa

/-! sizes -/
mutual
def szV : GValue → Nat
  | ⟨_, _, s, l, m⟩ => 1 + s.length + szVs l + szMs m
def szVs : List GValue → Nat
  | [] => 0
  | x :: l => szV x + szVs l
def szM : GMember → Nat
  | ⟨n, v⟩ => n.length + szV v
def szMs : List GMember → Nat
  | [] => 0
  | x :: l => szM x + szMs l
end
theorem szV_eq (v : GValue) : szV v = 1 + v.s.length + szVs v.l + szMs v.m := by cases v; simp only [szV]
theorem szM_eq (x : GMember) : szM x = x.name.length + szV x.v := by cases x; simp only [szM]
theorem szVs_mem {x : GValue} : ∀ {l : List GValue}, x ∈ l → szV x ≤ szVs l
  | a :: l, h => by
    simp only [szVs]
    rcases List.mem_cons.1 h with rfl | h
    · omega
    · have := szVs_mem h; omega
theorem szMs_mem {x : GMember} : ∀ {l : List GMember}, x ∈ l → szM x ≤ szMs l
  | a :: l, h => by
    simp only [szMs]
    rcases List.mem_cons.1 h with rfl | h
    · omega
    · have := szMs_mem h; omega
theorem szVs_len : ∀ (l : List GValue), l.length ≤ szVs l
  | [] => by simp [szVs]
  | a :: l => by have := szVs_len l; have := szV_eq a; simp only [szVs, List.length_cons]; omega
theorem szMs_len : ∀ (l : List GMember), l.length ≤ szMs l
  | [] => by simp [szMs]
  | a :: l => by have := szMs_len l; have := szM_eq a; have := szV_eq a.v; simp only [szMs, List.length_cons]; omega
theorem szVs_app : ∀ (l m : List GValue), szVs (l ++ m) = szVs l + szVs m
  | [], m => by simp [szVs]
  | a :: l, m => by simp only [List.cons_append, szVs, szVs_app l m]; omega
mutual
theorem szV_bk : ∀ v : GValue, szV v ≤ bkValue v
  | ⟨_, _, s, l, m⟩ => by
    have h1 := szVs_bk l
    have h2 := szMs_bk m
    simp only [szV, bkValue, bk1, bkStr]; omega
theorem szVs_bk : ∀ l : List GValue, szVs l ≤ bkValues l
  | [] => by simp [szVs]
  | x :: l => by have := szV_bk x; have := szVs_bk l; simp only [szVs, bkValues]; omega
theorem szM_bk : ∀ x : GMember, szM x ≤ bkMember x
  | ⟨n, v⟩ => by have := szV_bk v; simp only [szM, bkMember, bkStr]; omega
theorem szMs_bk : ∀ l : List GMember, szMs l ≤ bkMembers l
  | [] => by simp [szMs]
  | x :: l => by have := szM_bk x; have := szMs_bk l; simp only [szMs, bkMembers]; omega
end
end Go.Proofs.Ytgelaiohnmpjnaa

/-
  A value is the same as itself.
-/
set_option linter.unusedVariables false
set_option linter.unusedSimpArgs false
open Go Go.Ev
namespace Go.Proofs.Ytgelaiohnmpjnaa

/-! a value is the same as itself -/
theorem members_of (m : List GMember) (hm : m.length < 1073741824) (h : ∀ x ∈ m, seineref1_Same x.v x.v = some true) : seineref1_Members m m = some true := by
  apply seineref1_Members_run
  unfold seineref1_Members_B
  have key := tloop_list (b := seineref1_Members_l1T m m) m (fun k (_ : Unit) => (k : Int)) (fun r _ => Sum.inl ()) (fun _ _ => True)
    (by intro a _; simp [seineref1_Members_l1T])
    (by
      intro k x r a hk hx hd _
      have e1 : (decide ((k : Int) < (List.length m : Int))) = true := by simp; omega
      have e3 : IntKind.wrap .i64 ((k : Int) + 1) = ((k + 1 : Nat) : Int) := wadd (by omega)
      refine .inr ⟨(), ?_, trivial, rfl⟩
      simp only [seineref1_Members_l1T, e1, cnd_t, nthI_nat, hx, bnd_s, beq_self_eq_true, Bool.not_true, cnd_f, h x (List.mem_of_getElem? hx), e3])
  have := key 0 () (by omega) trivial
  rw [show (0 : Int) = ((0 : Nat) : Int) from rfl, this]
  simp
theorem seineref1_Same_self' : ∀ (n : Nat), n < 1073741824 → ∀ v : GValue, szV v ≤ n → seineref1_Same v v = some true := by
  intro n
  induction n with
  | zero => intro _ v h; have := szV_eq v; omega
  | succ n ih =>
    intro hn v h
    have hv := szV_eq v
    have hl := szVs_len v.l
    have hm := szMs_len v.m
    apply seineref1_Same_run
    unfold seineref1_Same_B
    have key := tloop_list (b := seineref1_Same_l1T v v) v.l (fun k (_ : Unit) => (k : Int)) (fun r _ => Sum.inl ()) (fun _ _ => True)
      (by intro a _; simp [seineref1_Same_l1T])
      (by
        intro k x r a hk hx hd _
        have e1 : (decide ((k : Int) < (List.length v.l : Int))) = true := by simp; omega
        have e3 : IntKind.wrap .i64 ((k : Int) + 1) = ((k + 1 : Nat) : Int) := wadd (by omega)
        have hs := ih (by omega) x (by have := szVs_mem (List.mem_of_getElem? hx); omega)
        refine .inr ⟨(), ?_, trivial, rfl⟩
        simp only [seineref1_Same_l1T, e1, cnd_t, nthI_nat, hx, bnd_s, hs, Bool.not_true, cnd_f, e3])
    have hk := key 0 () (by omega) trivial
    have hmm := members_of v.m (by omega) fun x hx => ih (by omega) x.v (by have := szMs_mem hx; have := szM_eq x; omega)
    rw [show (0 : Int) = ((0 : Nat) : Int) from rfl, hk]
    simp [hmm]
theorem seineref1_Same_self (v : GValue) (h : szV v < 1073741824) : seineref1_Same v v = some true := seineref1_Same_self' _ h v (Nat.le_refl _)

end Go.Proofs.Ytgelaiohnmpjnaa

/-
  Layer 4, wrap: the typed functions as plain ones.
-/
set_option linter.unusedVariables false
set_option linter.unusedSimpArgs false
open Go Go.Ev
namespace Go.Proofs.Ytgelaiohnmpjnaa

/-- Numbers as the model holds them, a name that is not endless. -/
def TOk (t : GType) : Prop := (-9223372036854775808 ≤ t.lists ∧ t.lists ≤ 9223372036854775807) ∧ (-9223372036854775808 ≤ t.musts ∧ t.musts ≤ 9223372036854775807) ∧ t.name.length < 4611686018427387904
def rightT (t : GType) : Bool := isName t.name && (decide (0 ≤ t.lists) && (decide (t.lists ≤ 4) && (decide (0 ≤ t.musts) && decide (t.musts < 2 ^ (t.lists.toNat + 1)))))
theorem rightT_iff (t : GType) : rightT t = true ↔ isName t.name = true ∧ 0 ≤ t.lists ∧ t.lists ≤ 4 ∧ 0 ≤ t.musts ∧ t.musts < 2 ^ (t.lists.toNat + 1) := by
  simp [rightT]
def bit0 (n : Int) : Bool := bits .and .i64 n 1 == 1
def isT (t : GType) : Bool := rightT t && bit0 t.musts
def bareT (t : GType) : GType := bif rightT t then ⟨t.name, t.lists, bits .andNot .i64 t.musts 1⟩ else t
def mustT (t : GType) : GType := bif rightT t then ⟨t.name, t.lists, bits .or .i64 t.musts 1⟩ else t
def subT (a b : GType) : Bool := rightT a && (rightT b && (a.name == b.name && (a.lists == b.lists && bits .andNot .i64 b.musts a.musts == 0)))
theorem bits_range (op : BinOp) (a b : Int) : -9223372036854775808 ≤ bits op .i64 a b ∧ bits op .i64 a b ≤ 9223372036854775807 := by
  have key : ∀ n : Int, -9223372036854775808 ≤ IntKind.wrap .i64 n ∧ IntKind.wrap .i64 n ≤ 9223372036854775807 := by
    intro n; rw [IntKind.wrap_i64]; omega
  unfold bits
  cases op <;> exact key _
theorem TOk.bare {t : GType} (h : TOk t) : TOk (bareT t) := by
  unfold bareT
  cases rightT t
  · exact h
  · show TOk ⟨t.name, t.lists, bits .andNot .i64 t.musts 1⟩
    exact ⟨h.1, bits_range .andNot t.musts 1, h.2.2⟩
theorem TOk.must {t : GType} (h : TOk t) : TOk (mustT t) := by
  unfold mustT
  cases rightT t
  · exact h
  · show TOk ⟨t.name, t.lists, bits .or .i64 t.musts 1⟩
    exact ⟨h.1, bits_range .or t.musts 1, h.2.2⟩

theorem small_bits : ∀ (l : Fin 5) (m : Fin 32), m.val < 2 ^ (l.val + 1) →
    (0 ≤ bits .or .i64 (m.val : Int) 1 ∧ bits .or .i64 (m.val : Int) 1 < 2 ^ (l.val + 1)) ∧ (0 ≤ bits .andNot .i64 (m.val : Int) 1 ∧ bits .andNot .i64 (m.val : Int) 1 < 2 ^ (l.val + 1)) ∧
    bit0 (bits .or .i64 (m.val : Int) 1) = true ∧ bits .andNot .i64 (bits .andNot .i64 (m.val : Int) 1) (bits .or .i64 (m.val : Int) 1) = 0 ∧
    bits .andNot .i64 (m.val : Int) (m.val : Int) = 0 ∧ bits .andNot .i64 (bits .or .i64 (m.val : Int) 1) (bits .or .i64 (m.val : Int) 1) = 0 := by decide +kernel
theorem right_bits {t : GType} (h : rightT t = true) : rightT ⟨t.name, t.lists, bits .or .i64 t.musts 1⟩ = true ∧ rightT ⟨t.name, t.lists, bits .andNot .i64 t.musts 1⟩ = true ∧ bit0 (bits .or .i64 t.musts 1) = true ∧
    bits .andNot .i64 (bits .andNot .i64 t.musts 1) (bits .or .i64 t.musts 1) = 0 ∧ bits .andNot .i64 t.musts t.musts = 0 ∧ bits .andNot .i64 (bits .or .i64 t.musts 1) (bits .or .i64 t.musts 1) = 0 := by
  obtain ⟨h1, h2, h3, h4, h5⟩ := (rightT_iff t).1 h
  obtain ⟨l, hl⟩ := Int.eq_ofNat_of_zero_le h2
  obtain ⟨m, hm⟩ := Int.eq_ofNat_of_zero_le h4
  rw [hl] at h3 h5
  rw [hm] at h5
  simp only [Int.toNat_natCast] at h5
  have h5' : m < 2 ^ (l + 1) := by exact_mod_cast h5
  have hl5 : l < 5 := by omega
  have hm5 : m < 32 := Nat.lt_of_lt_of_le h5' (by
    have : 2 ^ (l + 1) ≤ 2 ^ 5 := Nat.pow_le_pow_right (by decide) (by omega)
    exact this)
  obtain ⟨k1, k2, k3, k4, k5, k6⟩ := small_bits ⟨l, hl5⟩ ⟨m, hm5⟩ h5'
  simp only at k1 k2 k3 k4 k5 k6
  simp only [rightT_iff, hl, hm, Int.toNat_natCast]
  exact ⟨⟨h1, by omega, by omega, k1⟩, ⟨h1, by omega, by omega, k2⟩, k3, k4, k5, k6⟩
end Go.Proofs.Ytgelaiohnmpjnaa

/-
  Lists of texts and of numbers.
-/
set_option linter.unusedVariables false
set_option linter.unusedSimpArgs false
open Go Go.Ev
namespace Go.Proofs.Ytgelaiohnmpjnaa

/-! lists of texts, of numbers -/
theorem find_some {α : Type} (l : List α) (p : α → Bool) {β : Type} (g : α → β) : l.findSome? (fun x => if p x then some (g x) else none) = (l.find? p).map g := by
  induction l with
  | nil => rfl
  | cons a l ih =>
    rw [List.findSome?_cons, List.find?_cons]
    cases p a with
    | true => rfl
    | false => exact ih
def addD (l : List Str) (n : Str) : List Str := bif l.contains n then l else l ++ [n]
theorem addD_len (l : List Str) (n : Str) : (addD l n).length ≤ l.length + 1 := by
  unfold addD; cases l.contains n <;> simp
theorem addD_nodup {l : List Str} {n : Str} (h : l.Nodup) : (addD l n).Nodup := by
  unfold addD
  cases hc : l.contains n
  · simp only [cond_false]
    have hm : n ∉ l := by simpa using hc
    exact List.nodup_append.2 ⟨h, by simp, fun a ha b hb => by simp at hb; subst hb; exact fun e => hm (e ▸ ha)⟩
  · exact h
theorem addD_mem {l : List Str} {n x : Str} (h : x ∈ addD l n) : x ∈ l ∨ x = n := by
  unfold addD at h
  cases hc : l.contains n
  · rw [hc] at h; simpa using h
  · rw [hc] at h; exact .inl h
end Go.Proofs.Ytgelaiohnmpjnaa

/-
  Layer 9, defs: the typed functions of the program and of the reference as plain ones.
-/
set_option linter.unusedVariables false
set_option linter.unusedSimpArgs false
open Go Go.Ev
namespace Go.Proofs.Ytgelaiohnmpjnaa

/-! definitions -/
abbrev zDef : GDef := ⟨0, [], [], [], [], []⟩
def scalarN (n : Str) : Bool := n == [73, 110, 116] || (n == [83, 116, 114, 105, 110, 103] || (n == [66, 111, 111, 108, 101, 97, 110] || n == [73, 68]))
def findD (s : GSchema) (n : Str) : GDef × Bool := bif scalarN n then (⟨0, n, [], [], [], []⟩, true) else match s.defs.find? (fun d => d.name == n) with | some d => (d, true) | none => (zDef, false)
def kindD (s : GSchema) (n : Str) (ks : List Int) : Bool := (findD s n).2 && ks.contains (findD s n).1.kind
theorem kindD_two (s : GSchema) (n : Str) (a b : Int) : kindD s n [a, b, b] = kindD s n [a, b] := by
  simp only [kindD, List.contains_cons, List.contains_nil, Bool.or_false, Bool.or_self]
theorem kindD_one (s : GSchema) (n : Str) (a : Int) : kindD s n [a, a, a] = kindD s n [a] := by
  simp only [kindD, List.contains_cons, List.contains_nil, Bool.or_false, Bool.or_self]
/-! what is possible -/
def possD (s : GSchema) (n : Str) : List Str :=
  bif !(findD s n).2 then [] else bif (findD s n).1.kind == 1 then [n] else
  bif (findD s n).1.kind == 2 then s.defs.foldl (fun l x => bif x.kind == 1 && x.faces.contains n then addD l x.name else l) [] else
  bif (findD s n).1.kind == 3 then (findD s n).1.parts.foldl (fun l p => bif kindD s p [1] then addD l p else l) [] else []
/-- Short enough. -/
structure SOk (s : GSchema) : Prop where
  bk : bkSchema s < 1073741824
theorem bkDef_pos (d : GDef) : 1 ≤ bkDef d := by rw [bkDef_eq]; omega
theorem bkFieldDef_pos (d : GFieldDef) : 1 ≤ bkFieldDef d := by rw [bkFieldDef_eq]; omega
theorem bkParam_pos (d : GParam) : 1 ≤ bkParam d := by rw [bkParam_eq]; omega
theorem bkDir_pos (d : GDir) : 1 ≤ bkDir d := by rw [bkDir_eq]; omega
theorem bkMember_pos (d : GMember) : 1 ≤ bkMember d := by rw [bkMember_eq]; omega
theorem SOk.defs {s : GSchema} (h : SOk s) : s.defs.length < 1073741824 := by
  have h1 := h.bk; rw [bkSchema_eq] at h1
  have h2 := sl_len bkDef_pos s.defs
  omega
theorem SOk.def_bk {s : GSchema} (h : SOk s) {d : GDef} (hd : d ∈ s.defs) : bkDef d < 1073741824 := by
  have h1 := h.bk; rw [bkSchema_eq] at h1
  have h2 := sl_mem (f := bkDef) hd
  omega
theorem SOk.faces {s : GSchema} (h : SOk s) (d : GDef) (hd : d ∈ s.defs) : d.faces.length < 1073741824 := by
  have h1 := h.def_bk hd; rw [bkDef_eq] at h1
  have h2 := sl_len bkStr_pos d.faces
  omega
theorem SOk.parts {s : GSchema} (h : SOk s) (d : GDef) (hd : d ∈ s.defs) : d.parts.length < 1073741824 := by
  have h1 := h.def_bk hd; rw [bkDef_eq] at h1
  have h2 := sl_len bkStr_pos d.parts
  omega
theorem SOk.fields {s : GSchema} (h : SOk s) (d : GDef) (hd : d ∈ s.defs) : d.fields.length < 1073741824 := by
  have h1 := h.def_bk hd; rw [bkDef_eq] at h1
  have h2 := sl_len bkFieldDef_pos d.fields
  omega
theorem SOk.sm {s : GSchema} (h : SOk s) : Sm s.defs := by have := h.defs; show s.defs.length < _; omega
theorem findD_mem (s : GSchema) (n : Str) : (findD s n).1 ∈ s.defs ∨ ((findD s n).1.faces = [] ∧ (findD s n).1.fields = [] ∧ (findD s n).1.parts = [] ∧ (findD s n).1.params = []) := by
  unfold findD
  cases scalarN n
  · simp only [cond_false]
    cases h : s.defs.find? (fun d => d.name == n) with
    | none => exact .inr ⟨rfl, rfl, rfl, rfl⟩
    | some d => exact .inl (List.mem_of_find?_eq_some h)
  · exact .inr ⟨rfl, rfl, rfl, rfl⟩
theorem SOk.partsF {s : GSchema} (h : SOk s) (n : Str) : (findD s n).1.parts.length < 1073741824 := by
  rcases findD_mem s n with hm | ⟨_, _, hp, _⟩
  · exact h.parts _ hm
  · rw [hp]; decide
theorem SOk.fieldsF {s : GSchema} (h : SOk s) (n : Str) : (findD s n).1.fields.length < 1073741824 := by
  rcases findD_mem s n with hm | ⟨_, hp, _, _⟩
  · exact h.fields _ hm
  · rw [hp]; decide
end Go.Proofs.Ytgelaiohnmpjnaa

/-
  Layer 9, defs: fields, meeting; copies and likenesses of schemas.
-/
set_option linter.unusedVariables false
set_option linter.unusedSimpArgs false
open Go Go.Ev
namespace Go.Proofs.Ytgelaiohnmpjnaa

abbrev zF : GFieldDef := ⟨[], [], ⟨[], 0, 0⟩, []⟩
abbrev tnS : Str := [95, 95, 116, 121, 112, 101, 110, 97, 109, 101]
abbrev tnF : GFieldDef := ⟨tnS, [], ⟨[83, 116, 114, 105, 110, 103], 0, 1⟩, []⟩
def fieldD (s : GSchema) (typ name : Str) : GFieldDef × Bool :=
  bif name == tnS && kindD s typ [1, 2, 3] then (tnF, true) else bif (findD s typ).1.kind == 1 || (findD s typ).1.kind == 2 then (match (findD s typ).1.fields.find? (fun f => f.name == name) with | some f => (f, true) | none => (zF, false)) else (zF, false)
theorem findD_none {s : GSchema} {n : Str} (h : (findD s n).2 = false) : (findD s n).1 = zDef := by
  revert h
  unfold findD
  cases scalarN n
  · simp only [cond_false]
    cases hf : s.defs.find? (fun d => d.name == n) with
    | none => intro _; rfl
    | some d => intro h; simp at h
  · intro h; simp at h
theorem fieldEta (f : GFieldDef) : (⟨f.name, f.params, ⟨f.t.name, f.t.lists, f.t.musts⟩, f.dirs⟩ : GFieldDef) = f := rfl
/-! meeting -/
theorem foldl_add_len {α : Type} (c : α → Bool) (f : α → Str) : ∀ (l : List α) (a : List Str), (l.foldl (fun l x => bif c x then addD l (f x) else l) a).length ≤ a.length + l.length
  | [], a => by simp
  | x :: l, a => by
    have := foldl_add_len c f l (bif c x then addD a (f x) else a)
    have h2 := addD_len a (f x)
    rw [List.foldl_cons, List.length_cons]
    cases hc : c x <;> rw [hc] at this <;> simp only [cond_true, cond_false] at this ⊢ <;> omega
theorem possD_len (s : GSchema) (n : Str) (h : SOk s) : (possD s n).length < 1073741824 := by
  have h1 := h.defs
  have h2 := h.partsF n
  have h3 := foldl_add_len (fun x : GDef => x.kind == 1 && x.faces.contains n) (fun x => x.name) s.defs []
  have h4 := foldl_add_len (fun p : Str => kindD s p [1]) (fun p => p) (findD s n).1.parts []
  simp only [List.length_nil, Nat.zero_add] at h3 h4
  unfold possD
  cases (findD s n).2 <;> cases (findD s n).1.kind == 1 <;> cases (findD s n).1.kind == 2 <;> cases (findD s n).1.kind == 3 <;> simp only [Bool.not_true, Bool.not_false, cond_true, cond_false, List.length_nil, List.length_singleton] <;> omega
def meetsD (s : GSchema) (a b : Str) : Bool := (possD s a).any fun x => (possD s b).contains x
theorem meetsD_comm (s : GSchema) (a b : Str) : meetsD s a b = meetsD s b a := by
  unfold meetsD
  rw [Bool.eq_iff_iff]
  simp only [List.any_eq_true, List.contains_iff_mem]
  constructor <;> rintro ⟨x, h1, h2⟩ <;> exact ⟨x, h2, h1⟩
theorem meetsD_self (s : GSchema) (a : Str) : meetsD s a a = decide (((possD s a).length : Int) > 0) := by
  unfold meetsD
  cases h : possD s a with
  | nil => rfl
  | cons x l => simp
end Go.Proofs.Ytgelaiohnmpjnaa

/-
  Copies are what they are copies of; what is like is like itself; how light a schema is, is told.
-/
set_option linter.unusedVariables false
set_option linter.unusedSimpArgs false
open Go Go.Ev
namespace Go.Proofs.Ytgelaiohnmpjnaa

/-! copies -/
theorem tapp_nil {α : Type} (l : List α) (h : l.length < 1073741824) : tapp ([] : List α) l = some l := by
  rw [tapp_ok (by simp [lim_val]; omega)]; rfl
theorem szV_mem_bk {m : List GMember} (h : bkSl bkMember m < 1073741824) {x : GMember} (hx : x ∈ m) : szV x.v < 1073741824 := by
  have h1 := sl_mem (f := bkMember) hx
  have h2 := szM_bk x
  have h3 := szM_eq x
  omega
/-! likenesses -/
theorem seineref6_SameParams_self (l : List GParam) (h : bkSl bkParam l < 1073741824) : seineref6_SameParams l l = some true := by
  apply seineref6_SameParams_run
  unfold seineref6_SameParams_B
  have hl := sl_len bkParam_pos l
  rw [loop_all (b := seineref6_SameParams_l1T l l) l (.inl ()) (by show l.length < _; omega) (by simp [seineref6_SameParams_l1T]) (by
    intro k x hx h1 h2 h3
    have hb := sl_mem (f := bkParam) hx
    rw [bkParam_eq] at hb
    have hv := szV_bk x.default
    simp only [seineref6_SameParams_l1T, h1, cnd_t, h2, bnd_s, h3, beq_self_eq_true, Bool.not_true, cnd_f, Bool.and_self, seineref1_Same_self x.default (by omega)])]
  simp
/-! how light -/
end Go.Proofs.Ytgelaiohnmpjnaa

/-
  DirsParams, of the typed functions.
-/
set_option linter.unusedVariables false
set_option linter.unusedSimpArgs false
open Go Go.Ev
namespace Go.Proofs.Ytgelaiohnmpjnaa

theorem seinelaw15_awake_ok : seinelaw15_awake = some true := seinelaw15_awake_run 100 (by kernel_rfl)
def dirP (name : Str) : GParam × Bool := bif (name == ([115, 107, 105, 112] : Str)) || (name == ([105, 110, 99, 108, 117, 100, 101] : Str)) then ((GParam.mk [105, 102] (GType.mk [66, 111, 111, 108, 101, 97, 110] 0 1) false (GValue.mk 0 0 [] [] [])), true) else ((GParam.mk [] (GType.mk [] 0 0) false (GValue.mk 0 0 [] [] [])), false)
theorem dirs_Param_ok (name : Str) : dirs_Param name = some (dirP name) := by
  apply dirs_Param_run
  simp only [dirs_Param_B, dirP]
  cases name == ([115, 107, 105, 112] : Str) <;> cases name == ([105, 110, 99, 108, 117, 100, 101] : Str) <;> rfl
theorem seineref13_DirParam_ok (name : Str) : seineref13_DirParam name = some (dirP name) := by
  apply seineref13_DirParam_run
  simp only [seineref13_DirParam_B, dirP]
  cases name == ([115, 107, 105, 112] : Str) <;> cases name == ([105, 110, 99, 108, 117, 100, 101] : Str) <;> rfl
theorem dirP_same (name : Str) : seineref6_SameParams [(dirP name).1] [(dirP name).1] = some true := by
  apply seineref6_SameParams_self
  unfold dirP
  cases name == ([115, 107, 105, 112] : Str) <;> cases name == ([105, 110, 99, 108, 117, 100, 101] : Str) <;> decide
theorem seinelaw15_DirsParams_ok (name : Str) : seinelaw15_DirsParams name = some true := by
  apply seinelaw15_DirsParams_run
  simp only [seinelaw15_DirsParams_B, seinelaw15_awake_ok, dirs_Param_ok, seineref13_DirParam_ok, bnd_s, beq_self_eq_true, cnd_t, dirP_same, cnd_same]
end Go.Proofs.Ytgelaiohnmpjnaa

/-
  What is asked of the program as a whole.
-/
set_option linter.unusedVariables false
open Go Go.Ev
open Go.ChangeShapes Go.WideShapes Go.ChangeAt Go.RowKit
namespace Go.Proofs.Ytgelaiohnmpjnaa
theorem mixed : Try.prog.follows .mixedOrders = true := by kernel_rfl
theorem names : (Try.prog.funcs.toList.all fun fn => !fn.body.isSome || !(fn.name == "runtime.NumGoroutine")) = true := by kernel_rfl
theorem laid : laidOutB Try.prog = true := by kernel_rfl
theorem pok : POk Try.prog := by
  refine ⟨mixed, fun f fn hf hb => ?_⟩
  have hm : fn ∈ Try.prog.funcs.toList := by
    have := Array.mem_of_getElem? hf
    simpa using this
  have := List.all_eq_true.1 names fn hm
  rw [hb] at this
  simpa using this
theorem xok : ExtOk Try.prog XT := fun f g h => by simp [XT] at h
theorem blOk {H : Type} : BlOk (H := H) Rows.uptoBulk Rows.uptoBulkAll := by
  refine ⟨fun l => ?_, fun s => ?_, ?_, fun es sp => ?_, fun ps => ?_, fun d r => ?_⟩
  · cases l <;> simp [Rows.uptoBulk]
  · simp [Rows.uptoBulk]
  · simp [Rows.uptoBulk]
  · simp only [Rows.uptoBulk]; omega
  · simp only [Rows.uptoBulk]; omega
  · simp [Rows.uptoBulkAll]
theorem own : ownKnob Try.prog.godebug = none := by kernel_rfl
end Go.Proofs.Ytgelaiohnmpjnaa

/-
  DirsParams: just the two directives are there, each with just one argument. Conditions: none beside the row's own (bulk at most 1048576).
-/
set_option linter.unusedVariables false
open Go Go.Ev
open Go.ChangeShapes Go.WideShapes Go.ChangeAt Go.RowKit
namespace Go.Proofs.Ytgelaiohnmpjnaa
namespace dirsParams
def fs : Ty := (.fcons .str .fnil)
theorem lawF : ∀ x : fs.den RS, good RS fs x → bulkL RS fs x ≤ 1048576 → OL Try.prog MT XT 11 (encL RS fs x) [] = some (.bool true, []) := by
  rintro ⟨x0, _⟩ g b
  have b' : bkStr x0 + (0) ≤ 1048576 := b
  obtain ⟨g0, _⟩ := g
  have g0' : gd1 x0 := g0
  have e : encL RS fs (x0, ()) = [PV.str x0] := rfl
  rw [e]
  change O 11 _ _ = _
  have h := seinelaw15_DirsParams_spec (seinelaw15_DirsParams_ok x0)
  simpa only [tys, seinelaw15_DirsParamsE] using h
set_option maxRecDepth 100000 in
theorem contract (H : Type) (enc : TypeId × Value → H) (W : World) (base : Nat) (args : Array Value) (ds gs : List (DataW H)) (before : List MemPlace)
    (hval : ∀ (j : Nat) t v, Try.f11.params[j]? = some t → args[j]? = some v → Value.okWide Try.prog W .any base t v)
    (hW : DataW.Whole enc Try.prog Try.f11.params.toList Rows.dirsParamsSpec.vars false W args.toList ds gs before) (hk : Rows.uptoSmall H (ds ++ gs) = true) :
    Calls Try.prog 11 args W fun e W' => ∃ v, e = .returned v ∧ Rows.dirsParamsSpec.post enc Try.prog Try.f11 false true false false W args v W' := by
  have hg : gs = [] := by
    obtain ⟨p, q, hA, hV, _⟩ := hW
    exact (trodVars_none hV).1
  have hb : Rows.uptoBulkAll ds ≤ 1048576 := by
    have := of_decide_eq_true hk
    simpa [hg] using this
  have hlen : ds.length = 1 := by
    obtain ⟨p, q, hA0, hV, _⟩ := hW
    have hA : DataW.TrodAll enc Try.prog W 0 (fun _ => true) true Try.f11.params.toList args.toList ds p := hA0
    rw [Try.params11] at hA
    obtain ⟨v0, vs0, d0, ds0, p0, q0, h0, rfl, rfl, ht0, r0⟩ := trodAll_cons hA
    obtain ⟨rfl, rfl, rfl⟩ := trodAll_nil r0
    rfl
  refine contract_true pok xok laid blOk Try.func11 rfl (n := 9) (ρ := RS) (τ := TS) (fs := fs) (tb := 4) (by kernel_rfl) (by rw [show Try.f11.resultTypes = #[4] from rfl]) Try.underlying4 rfl (rok enc W blOk) ?_ hval hW hb lawF
  subst hg
  match ds, hlen with
  | [d0], _ => exact ⟨rfl, rfl, rfl⟩
set_option maxRecDepth 100000 in
theorem lifted (os : Os) (started : os.Started) (H : Type) (enc : TypeId × Value → H) (F : Stop.Interp) :
    ReturnsInHanded {} Try.checked os 11 .any ((Rows.OpenSpec.upto Rows.dirsParamsSpec).pre6 enc Try.prog Try.f11 Rows.dirsParamsUptoRow.domain false) (((Rows.OpenSpec.upto Rows.dirsParamsSpec).at F).post enc Try.prog Try.f11 false true false false) := by
  refine returnsInHanded_of_cond (C := Try.checked) (s := Rows.OpenSpec.upto Rows.dirsParamsSpec) (k := Rows.uptoSmall) rfl own started (by kernel_rfl) Try.func11
    (OpenSpec.witness (enc := enc) (C := Try.checked) (s := Rows.OpenSpec.upto Rows.dirsParamsSpec) (k := Rows.uptoSmall) rfl false ⟨#[], #[.string ⟨#[]⟩], []⟩ 8 (by kernel_rfl) (by kernel_rfl) (by kernel_rfl)
      (x := ([.lit (.string [])], [], [])) (by kernel_rfl) rfl (by kernel_rfl)) ?_
  intro W base args ds gs before hval hW _ hk _
  exact contract H enc W base args ds gs before hval hW hk
theorem over : Rows.dirsParamsUptoRow.holds Try.pinned (Rows.OpenSpec.upto Rows.dirsParamsSpec) :=
  OpenClaim.holds_of_cond 11 Try.f11 rfl rfl rfl rfl rfl rfl rfl ⟨rfl, rfl, rfl, rfl, rfl⟩ rfl rfl rfl rfl rfl (by kernel_rfl) Try.func11 (by kernel_rfl)
    (of_decide_eq_true (by kernel_rfl)) (by unfold Func.isWrapper; first | (rw [if_pos (by decide +kernel)]; kernel_rfl) | (rw [if_neg (by decide +kernel)]; exact ⟨rfl, rfl⟩))
    (fun os started H enc _ F => lifted os started H enc F)
theorem proved : Rows.DirsParamsUptoSaid :=
  over
end dirsParams
end Go.Proofs.Ytgelaiohnmpjnaa
