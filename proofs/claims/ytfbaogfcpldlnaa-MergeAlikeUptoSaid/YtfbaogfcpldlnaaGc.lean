import Derived.Test.YtfbaogfcpldlnaaGa
import Derived.Test.YtfbaogfcpldlnaaEd
import Derived.WalkKit
import Derived.KernelRfl
import Derived.Test.YtfbaogfcpldlnaaGb
set_option linter.unusedVariables false
set_option linter.unusedSimpArgs false
set_option linter.unusedSimpArgs false
open Go Go.Ev Go.Ev.PV
namespace Go.Proofs.Ytfbaogfcpldlnaa
open Go Go.Ev Go.Ev.PV
open Go.RowKit
def GM : Mem := fun _ _ => none
theorem xok : ExtOk Try.prog GM XT := by
 intro f g h
 simp only [XT, Go.Ev.look] at h
 repeat (split at h; · rename_i hf; subst hf; cases h; exact xSelf_ok)
 simp at h
theorem mixedX : Try.prog.follows .mixedOrders = true := by kernel_rfl
theorem namesX : (Try.prog.funcs.toList.all fun fn => !fn.body.isSome || !(fn.name == "runtime.NumGoroutine")) = true := by kernel_rfl
theorem pokX : POk Try.prog := by
 refine ⟨mixedX, fun f fn hf hb => ?_⟩
 have hm : fn ∈ Try.prog.funcs.toList := by
  have := Array.mem_of_getElem? hf
  simpa using this
 have := List.all_eq_true.1 namesX fn hm
 rw [hb] at this
 simpa using this
open Go Go.Ev
mutual
def szV : GValue → Nat
 | ⟨_, _, s, l, m⟩ => 1 + s.length + szVs l + szMs m
def szVs : List GValue → Nat
 | [] => 0
 | x :: l => szV x + szVs l
def szM : GMember → Nat
 | ⟨n, v⟩ => n.length + szV v
def szMs : List GMember → Nat
 | [] => 0
 | x :: l => szM x + szMs l
end
theorem szV_eq (v : GValue) : szV v = 1 + v.s.length + szVs v.l + szMs v.m := by cases v; simp only [szV]
theorem szM_eq (x : GMember) : szM x = x.name.length + szV x.v := by cases x; simp only [szM]
theorem szVs_mem {x : GValue} : ∀ {l : List GValue}, x ∈ l → szV x ≤ szVs l
 | a :: l, h => by
  simp only [szVs]
  rcases List.mem_cons.1 h with rfl | h
  ·omega
  ·have := szVs_mem h; omega
theorem szMs_mem {x : GMember} : ∀ {l : List GMember}, x ∈ l → szM x ≤ szMs l
 | a :: l, h => by
  simp only [szMs]
  rcases List.mem_cons.1 h with rfl | h
  ·omega
  ·have := szMs_mem h; omega
theorem szVs_len : ∀ (l : List GValue), l.length ≤ szVs l
 | [] => by simp [szVs]
 | a :: l => by have := szVs_len l; have := szV_eq a; simp only [szVs, List.length_cons]; omega
theorem szMs_len : ∀ (l : List GMember), l.length ≤ szMs l
 | [] => by simp [szMs]
 | a :: l => by have := szMs_len l; have := szM_eq a; have := szV_eq a.v; simp only [szMs, List.length_cons]; omega
theorem seinekeep_Size_ok' : ∀ (n : Nat), n < 4611686018427387904 → ∀ v : GValue, szV v ≤ n → seinekeep_Size v = some (szV v : Int) := by
 intro n
 induction n with
 | zero => intro _ v h; have := szV_eq v; omega
 | succ n ih =>
  intro hn v h
  have hv := szV_eq v
  have hl := szVs_len v.l
  have hm := szMs_len v.m
  apply seinekeep_Size_run
  unfold seinekeep_Size_B
  have k1 := tloop_list (b := seinekeep_Size_l1T v) v.l (fun k (a : Nat) => ((a : Int), (k : Int))) (fun r a => ((a + szVs r : Nat) : Int)) (fun k a => a + szVs (v.l.drop k) ≤ 1 + v.s.length + szVs v.l)
   (by
    intro a _
    simp [seinekeep_Size_l1T, szVs])
   (by
    intro k x r a hk hx hd hI
    have hxm : x ∈ v.l := List.mem_of_getElem? hx
    have h1 := szVs_mem hxm
    have h2 := ih (by omega) x (by omega)
    rw [hd] at hI
    simp only [szVs] at hI
    have e1 : (decide ((k : Int) < (List.length v.l : Int))) = true := by simp; omega
    have e3 : IntKind.wrap .i64 ((k : Int) + 1) = ((k + 1 : Nat) : Int) := wadd (by omega)
    have e4 : IntKind.wrap .i64 ((a : Int) + (szV x : Int)) = ((a + szV x : Nat) : Int) := by rw [wi (by omega)]; omega
    refine .inr ⟨a + szV x, ?_, ?_, ?_⟩
    ·simp only [seinekeep_Size_l1T, e1, cnd_t, nthI_nat, hx, bnd_s, h2, e3, e4]
    ·have : v.l.drop (k + 1) = r := by rw [← List.tail_drop, hd]; rfl
     rw [this]; omega
    ·simp only [szVs, Nat.add_assoc])
  have k2 := tloop_list (b := seinekeep_Size_l2T v) v.m (fun k (a : Nat) => ((a : Int), (k : Int))) (fun r a => ((a + szMs r : Nat) : Int)) (fun k a => a + szMs (v.m.drop k) ≤ 1 + v.s.length + szVs v.l + szMs v.m)
   (by
    intro a _
    simp [seinekeep_Size_l2T, szMs])
   (by
    intro k x r a hk hx hd hI
    have hxm : x ∈ v.m := List.mem_of_getElem? hx
    have h1 := szMs_mem hxm
    have h1' := szM_eq x
    have h2 := ih (by omega) x.v (by omega)
    rw [hd] at hI
    simp only [szMs] at hI
    have e1 : (decide ((k : Int) < (List.length v.m : Int))) = true := by simp; omega
    have e3 : IntKind.wrap .i64 ((k : Int) + 1) = ((k + 1 : Nat) : Int) := wadd (by omega)
    have e5 : IntKind.wrap .i64 ((a : Int) + (x.name.length : Int)) = ((a + x.name.length : Nat) : Int) := by rw [wi (by omega)]; omega
    have e4 : IntKind.wrap .i64 (((a + x.name.length : Nat) : Int) + (szV x.v : Int)) = ((a + szM x : Nat) : Int) := by rw [wi (by omega)]; omega
    refine .inr ⟨a + szM x, ?_, ?_, ?_⟩
    ·simp only [seinekeep_Size_l2T, e1, cnd_t, nthI_nat, hx, bnd_s, h2, e3, e4, e5]
    ·have : v.m.drop (k + 1) = r := by rw [← List.tail_drop, hd]; rfl
     rw [this]; omega
    ·simp only [szMs, Nat.add_assoc])
  have e0 : IntKind.wrap .i64 (1 + (v.s.length : Int)) = ((1 + v.s.length : Nat) : Int) := by rw [wi (by omega)]; omega
  rw [e0, show (0 : Int) = ((0 : Nat) : Int) from rfl, k1 0 (1 + v.s.length) (by omega) (by simp)]
  simp only [List.drop_zero, bnd_s]
  rw [k2 0 (1 + v.s.length + szVs v.l) (by omega) (by simp)]
  simp only [List.drop_zero, bnd_s, hv]
theorem seinekeep_Size_ok (v : GValue) (h : szV v < 4611686018427387904) : seinekeep_Size v = some (szV v : Int) := seinekeep_Size_ok' _ h v (Nat.le_refl _)
mutual
theorem szV_bk : ∀ v : GValue, szV v ≤ bkValue v
 | ⟨_, _, s, l, m⟩ => by
  have h1 := szVs_bk l
  have h2 := szMs_bk m
  simp only [szV, bkValue, bk1, bkStr]; omega
theorem szVs_bk : ∀ l : List GValue, szVs l ≤ bkValues l
 | [] => by simp [szVs]
 | x :: l => by have := szV_bk x; have := szVs_bk l; simp only [szVs, bkValues]; omega
theorem szM_bk : ∀ x : GMember, szM x ≤ bkMember x
 | ⟨n, v⟩ => by have := szV_bk v; simp only [szM, bkMember, bkStr]; omega
theorem szMs_bk : ∀ l : List GMember, szMs l ≤ bkMembers l
 | [] => by simp [szMs]
 | x :: l => by have := szM_bk x; have := szMs_bk l; simp only [szMs, bkMembers]; omega
end
theorem slices_Index_int_ok (l : List Int) (v : Int) (hl : Sm l) : ∃ i, slices_Index_int_int l v = some i ∧ decide (i ≥ 0) = l.contains v := by
 have key := loop_list (b := slices_Index_int_int_l1T l v) l (fun k (_ : Nat) => (k : Int)) (fun r k => match r.findIdx? (fun y => v == y) with | some j => Sum.inr ((k + j : Nat) : Int) | none => Sum.inl ()) (fun k a => a = k) hl
  (by intro a _; simp [slices_Index_int_int_l1T])
  (by
   intro k x r a hm hk hd h1 h2 h3 hI
   subst hI
   simp only [slices_Index_int_int_l1T, h1, cnd_t, h2, bnd_s, h3, List.findIdx?_cons]
   cases hv : v == x
   ·refine .inr ⟨a + 1, rfl, rfl, ?_⟩
    simp only [Bool.false_eq_true, if_false]
    cases r.findIdx? (fun y => v == y) with
    | none => rfl
    | some j => simp only [Option.map_some]; congr 2; omega
   ·left; simp) (s := 0) (a := 0) rfl rfl
 have hrun : ∀ i, slices_Index_int_int_B l v = some i → slices_Index_int_int l v = some i := fun i h => slices_Index_int_int_run h
 unfold slices_Index_int_int_B at hrun
 rw [key] at hrun
 simp only [bnd_s, Nat.zero_add] at hrun
 have hc : l.contains v = (l.findIdx? (fun y => v == y)).isSome := by
  rw [List.findIdx?_isSome, List.contains_eq_any_beq]
 cases hf : l.findIdx? (fun y => v == y) with
 | none => rw [hf] at hrun hc; exact ⟨-1, hrun _ rfl, by rw [hc]; rfl⟩
 | some j => rw [hf] at hrun hc; exact ⟨(j : Int), hrun _ rfl, by rw [hc]; simp⟩
theorem slices_Contains_int_ok (l : List Int) (v : Int) (hl : Sm l) : slices_Contains_int_int l v = some (l.contains v) := by
 obtain ⟨i, h1, h2⟩ := slices_Index_int_ok l v hl
 apply slices_Contains_int_int_run
 simp only [slices_Contains_int_int_B, h1, bnd_s, h2]
theorem find_some {α : Type} (l : List α) (p : α → Bool) {β : Type} (g : α → β) : l.findSome? (fun x => if p x then some (g x) else none) = (l.find? p).map g := by
 induction l with
 | nil => rfl
 | cons a l ih =>
  rw [List.findSome?_cons, List.find?_cons]
  cases p a with
  | true => rfl
  | false => exact ih
abbrev zDef : GDef := ⟨0, [], [], [], [], []⟩
def scalarN (n : Str) : Bool := n == [73, 110, 116] || (n == [83, 116, 114, 105, 110, 103] || (n == [66, 111, 111, 108, 101, 97, 110] || n == [73, 68]))
theorem defs_scalar_ok (n : Str) : defs_scalar n = some (scalarN n) := by
 apply defs_scalar_run
 simp only [defs_scalar_B, scalarN]
 cases n == [73, 110, 116] <;> cases n == [83, 116, 114, 105, 110, 103] <;> cases n == [66, 111, 111, 108, 101, 97, 110] <;> rfl
def findD (s : GSchema) (n : Str) : GDef × Bool := bif scalarN n then (⟨0, n, [], [], [], []⟩, true) else match s.defs.find? (fun d => d.name == n) with | some d => (d, true) | none => (zDef, false)
theorem defs_Find_ok (s : GSchema) (n : Str) (hl : Sm s.defs) : defs_Find s n = some (findD s n) := by
 apply defs_Find_run
 unfold defs_Find_B findD
 rw [loop_find (b := defs_Find_l1T s n) s.defs (fun d => if (d.name == n) = true then some (.inr (d.kind, d.name, d.faces, d.fields, d.parts, d.params)) else none) (.inl ()) hl (by simp [defs_Find_l1T]) (by
  intro k x hm h1 h2 h3
  simp only [defs_Find_l1T, h1, cnd_t, h2, bnd_s, h3]
  cases x.name == n <;> rfl)]
 rw [find_some, defs_scalar_ok]
 cases scalarN n
 ·simp only [bnd_s, cnd_f, cond_false]
  cases s.defs.find? (fun d => d.name == n) <;> rfl
 ·rfl
def kindD (s : GSchema) (n : Str) (ks : List Int) : Bool := (findD s n).2 && ks.contains (findD s n).1.kind
theorem defs_Kind_ok (s : GSchema) (n : Str) (ks : List Int) (hl : Sm s.defs) (hk : Sm ks) : defs_Kind s n ks = some (kindD s n ks) := by
 apply defs_Kind_run
 simp only [defs_Kind_B, defs_Find_ok s n hl, bnd_s, slices_Contains_int_ok ks _ hk, kindD]
 cases (findD s n).2 <;> rfl
theorem defs_Leaf_ok (s : GSchema) (n : Str) (hl : Sm s.defs) : defs_Leaf s n = some (kindD s n [0, 4]) :=
 defs_Leaf_run (by simp [defs_Leaf_B, defs_Kind_ok s n [0, 4] hl (by decide)])
theorem defs_Composite_ok (s : GSchema) (n : Str) (hl : Sm s.defs) : defs_Composite s n = some (kindD s n [1, 2, 3]) :=
 defs_Composite_run (by simp [defs_Composite_B, defs_Kind_ok s n [1, 2, 3] hl (by decide)])
structure SOk (s : GSchema) : Prop where
 bk : bkSchema s < 1073741824
theorem bkDef_pos (d : GDef) : 1 ≤ bkDef d := by rw [bkDef_eq]; omega
theorem bkFieldDef_pos (d : GFieldDef) : 1 ≤ bkFieldDef d := by rw [bkFieldDef_eq]; omega
theorem SOk.defs {s : GSchema} (h : SOk s) : s.defs.length < 1073741824 := by
 have h1 := h.bk; rw [bkSchema_eq] at h1
 have h2 := sl_len bkDef_pos s.defs
 omega
theorem SOk.def_bk {s : GSchema} (h : SOk s) {d : GDef} (hd : d ∈ s.defs) : bkDef d < 1073741824 := by
 have h1 := h.bk; rw [bkSchema_eq] at h1
 have h2 := sl_mem (f := bkDef) hd
 omega
theorem SOk.faces {s : GSchema} (h : SOk s) (d : GDef) (hd : d ∈ s.defs) : d.faces.length < 1073741824 := by
 have h1 := h.def_bk hd; rw [bkDef_eq] at h1
 have h2 := sl_len bkStr_pos d.faces
 omega
theorem SOk.parts {s : GSchema} (h : SOk s) (d : GDef) (hd : d ∈ s.defs) : d.parts.length < 1073741824 := by
 have h1 := h.def_bk hd; rw [bkDef_eq] at h1
 have h2 := sl_len bkStr_pos d.parts
 omega
theorem SOk.fields {s : GSchema} (h : SOk s) (d : GDef) (hd : d ∈ s.defs) : d.fields.length < 1073741824 := by
 have h1 := h.def_bk hd; rw [bkDef_eq] at h1
 have h2 := sl_len bkFieldDef_pos d.fields
 omega
theorem SOk.sm {s : GSchema} (h : SOk s) : Sm s.defs := by have := h.defs; show s.defs.length < _; omega
theorem findD_mem (s : GSchema) (n : Str) : (findD s n).1 ∈ s.defs ∨ ((findD s n).1.faces = [] ∧ (findD s n).1.fields = [] ∧ (findD s n).1.parts = [] ∧ (findD s n).1.params = []) := by
 unfold findD
 cases scalarN n
 ·simp only [cond_false]
  cases h : s.defs.find? (fun d => d.name == n) with
  | none => exact .inr ⟨rfl, rfl, rfl, rfl⟩
  | some d => exact .inl (List.mem_of_find?_eq_some h)
 ·exact .inr ⟨rfl, rfl, rfl, rfl⟩
theorem SOk.fieldsF {s : GSchema} (h : SOk s) (n : Str) : (findD s n).1.fields.length < 1073741824 := by
 rcases findD_mem s n with hm | ⟨_, hp, _, _⟩
 ·exact h.fields _ hm
 ·rw [hp]; decide
abbrev zF : GFieldDef := ⟨[], [], ⟨[], 0, 0⟩, []⟩
abbrev tnS : Str := [95, 95, 116, 121, 112, 101, 110, 97, 109, 101]
abbrev tnF : GFieldDef := ⟨tnS, [], ⟨[83, 116, 114, 105, 110, 103], 0, 1⟩, []⟩
theorem IndexFunc_ok (l : List GFieldDef) (d : GDef) (a b : Str) (p q : Int) (name : Str) (s : GSchema) (hl : Sm l) :
  ∃ i, slices_IndexFunc_FieldDef l d a b p q name s = some i ∧ (match l.find? (fun f => f.name == name) with | some f => decide (i < 0) = false ∧ nthI l i = some f | none => decide (i < 0) = true) := by
 have hc : ∀ f, defs_Field_1 f d a b p q name s = some (f.name == name) := fun f => defs_Field_1_run rfl
 have key := loop_list (b := slices_IndexFunc_FieldDef_l1T l d a b p q name s) l (fun k (_ : Nat) => (k : Int)) (fun r k => match r.findIdx? (fun f => f.name == name) with | some j => Sum.inr ((k + j : Nat) : Int) | none => Sum.inl ()) (fun k a => a = k) hl
  (by intro a _; simp [slices_IndexFunc_FieldDef_l1T])
  (by
   intro k x r a' hm hk hd h1 h2 h3 hI
   subst hI
   simp only [slices_IndexFunc_FieldDef_l1T, h1, cnd_t, h2, bnd_s, h3, hc, List.findIdx?_cons]
   cases hv : x.name == name
   ·refine .inr ⟨a' + 1, rfl, rfl, ?_⟩
    simp only [Bool.false_eq_true, if_false]
    cases r.findIdx? (fun f => f.name == name) with
    | none => rfl
    | some j => simp only [Option.map_some]; congr 2; omega
   ·left; simp) (s := 0) (a := 0) rfl rfl
 have hrun : ∀ i, slices_IndexFunc_FieldDef_B l d a b p q name s = some i → slices_IndexFunc_FieldDef l d a b p q name s = some i := fun i h => slices_IndexFunc_FieldDef_run h
 unfold slices_IndexFunc_FieldDef_B at hrun
 rw [key] at hrun
 simp only [bnd_s, Nat.zero_add] at hrun
 cases hf : l.findIdx? (fun f => f.name == name) with
 | none =>
  rw [hf] at hrun
  refine ⟨-1, hrun _ rfl, ?_⟩
  rw [List.findIdx?_eq_none_iff] at hf
  have : l.find? (fun f => f.name == name) = none := List.find?_eq_none.2 fun x hx => by simp [hf x hx]
  rw [this]; rfl
 | some j =>
  rw [hf] at hrun
  refine ⟨(j : Int), hrun _ rfl, ?_⟩
  obtain ⟨hj, hp, hq⟩ := List.findIdx?_eq_some_iff_getElem.1 hf
  have : l.find? (fun f => f.name == name) = some l[j] := by
   rw [List.find?_eq_some_iff_getElem]
   exact ⟨hp, j, hj, rfl, fun k hk => by simpa using hq k hk⟩
  rw [this]
  exact ⟨by simp, by rw [nthI_nat, List.getElem?_eq_getElem hj]⟩
def fieldD (s : GSchema) (typ name : Str) : GFieldDef × Bool :=
 bif name == tnS && kindD s typ [1, 2, 3] then (tnF, true) else bif (findD s typ).1.kind == 1 || (findD s typ).1.kind == 2 then (match (findD s typ).1.fields.find? (fun f => f.name == name) with | some f => (f, true) | none => (zF, false)) else (zF, false)
theorem findD_none {s : GSchema} {n : Str} (h : (findD s n).2 = false) : (findD s n).1 = zDef := by
 revert h
 unfold findD
 cases scalarN n
 ·simp only [cond_false]
  cases hf : s.defs.find? (fun d => d.name == n) with
  | none => intro _; rfl
  | some d => intro h; simp at h
 ·intro h; simp at h
theorem defs_Field_ok (s : GSchema) (typ name : Str) (h : SOk s) : defs_Field s typ name = some (fieldD s typ name) := by
 apply defs_Field_run
 have hs := h.sm
 have hf := h.fieldsF typ
 obtain ⟨i, h1, h2⟩ := IndexFunc_ok (findD s typ).1.fields (findD s typ).1 [] [] 0 0 name s (by show (findD s typ).1.fields.length < _; omega)
 have tail : (cnd (!(findD s typ).2) (some (zF, false)) (cnd ((findD s typ).1.kind != 1) (cnd ((findD s typ).1.kind != 2) (some (zF, false)) (cnd (decide (i < 0)) (some (zF, false)) (bnd (nthI (findD s typ).1.fields i) fun y => some (y, true)))) (cnd (decide (i < 0)) (some (zF, false)) (bnd (nthI (findD s typ).1.fields i) fun y => some (y, true))))) =
   some (bif (findD s typ).1.kind == 1 || (findD s typ).1.kind == 2 then (match (findD s typ).1.fields.find? (fun f => f.name == name) with | some f => (f, true) | none => (zF, false)) else (zF, false)) := by
  have e1 : ((findD s typ).1.kind != 1) = !((findD s typ).1.kind == 1) := rfl
  have e2 : ((findD s typ).1.kind != 2) = !((findD s typ).1.kind == 2) := rfl
  cases h3 : (findD s typ).2
  ·rw [findD_none h3]; rfl
  ·rw [e1, e2]
   cases hff : (findD s typ).1.fields.find? (fun f => f.name == name) with
   | none => rw [hff] at h2; simp only at h2; rw [h2]; cases (findD s typ).1.kind == 1 <;> cases (findD s typ).1.kind == 2 <;> rfl
   | some f => rw [hff] at h2; obtain ⟨h4, h5⟩ := h2; rw [h4, h5]; cases (findD s typ).1.kind == 1 <;> cases (findD s typ).1.kind == 2 <;> rfl
 simp only [defs_Field_B, defs_Composite_ok s typ hs, defs_Find_ok s typ hs, bnd_s, h1, fieldD]
 rw [tail]
 cases name == tnS <;> cases kindD s typ [1, 2, 3] <;> rfl
end Go.Proofs.Ytfbaogfcpldlnaa
