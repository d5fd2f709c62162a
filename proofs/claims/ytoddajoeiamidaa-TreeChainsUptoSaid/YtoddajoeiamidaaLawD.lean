/-
  TreeChains: null goes up just where a chain of places that must be there leads down to a null. Conditions: none beside the row's own (bulk at most 1048576).
-/
import Derived.Test.YtoddajoeiamidaaGb
import Derived.Test.YtoddajoeiamidaaGc
import Derived.Test.YtoddajoeiamidaaGa
import Derived.Test.YtoddajoeiamidaaEd
import Derived.Test.YtoddajoeiamidaaRows
import Derived.WalkKit
import Derived.ProofKit
import Derived.OpenShut
import Derived.JoinedCond
set_option linter.unusedVariables false
set_option linter.unusedSimpArgs false
/-
  The typed functions of the layers 1, 4, 18 as plain ones.
-/
set_option linter.unusedVariables false
set_option linter.unusedSimpArgs false
open Go Go.Ev
namespace Go.Proofs.Ytoddajoeiamidaa

def letter (c : Int) : Bool := (decide (97 ≤ c) && decide (c ≤ 122)) || ((decide (65 ≤ c) && decide (c ≤ 90)) || c == 95)
def digit (c : Int) : Bool := decide (48 ≤ c) && decide (c ≤ 57)
theorem letters_Letter_ok (c : Int) : letters_Letter c = some (letter c) := by
  apply letters_Letter_run
  simp only [letters_Letter_B, letter, cnd_ite, ge_iff_le]
  cases decide (97 ≤ c) <;> cases decide (c ≤ 122) <;> cases decide (65 ≤ c) <;> cases decide (c ≤ 90) <;> simp
theorem letters_Digit_ok (c : Int) : letters_Digit c = some (digit c) := by
  apply letters_Digit_run
  simp only [letters_Digit_B, digit, cnd_ite, ge_iff_le]
  cases decide (48 ≤ c) <;> simp
theorem seineref1_start_ok (c : Int) : seineref1_start c = some (letter c) := by
  apply seineref1_start_run
  simp only [seineref1_start_B, letter, cnd_ite, ge_iff_le]
  cases decide (97 ≤ c) <;> cases decide (c ≤ 122) <;> cases decide (65 ≤ c) <;> cases decide (c ≤ 90) <;> simp
theorem seineref1_digit_ok (c : Int) : seineref1_digit c = some (digit c) := by
  apply seineref1_digit_run
  simp only [seineref1_digit_B, digit, cnd_ite, ge_iff_le]
  cases decide (48 ≤ c) <;> simp

/-- All of these may stand behind a name's first sign. -/
def inName (c : UInt8) : Bool := letter c.toNat || digit c.toNat
def isName : Str → Bool
  | [] => false
  | c :: s => letter c.toNat && s.all inName
theorem letters_Name_ok (s : Str) (h : s.length < 4611686018427387904) : letters_Name s = some (isName s) := by
  apply letters_Name_run
  have key := tloop_list (b := letters_Name_l1T s) s (fun k (_ : Unit) => (k : Int)) (fun r _ => if r.all (fun c => inName c) then Sum.inl () else Sum.inr ()) (fun k _ => 1 ≤ k)
    (by
      intro a _
      simp [letters_Name_l1T])
    (by
      intro k x r a hk hx hd hI
      have e1 : (decide ((k : Int) < (List.length s : Int))) = true := by simp; omega
      have e2 : ((k : Int) == 0) = false := by simp; omega
      have e3 : IntKind.wrap .i64 ((k : Int) + 1) = ((k + 1 : Nat) : Int) := wadd (by omega)
      simp only [letters_Name_l1T, e1, cnd_t, nthI_nat, hx, bnd_s, letters_Letter_ok, letters_Digit_ok, e2, cnd_f, e3]
      cases h1 : letter x.toNat <;> cases h2 : digit x.toNat <;> simp [inName, h1, h2])
  unfold letters_Name_B
  cases s with
  | nil =>
    rw [tloop_exit (r := .inl ()) (by simp [letters_Name_l1T])]
    simp [isName]
  | cons c s =>
    have e1 : (decide ((0 : Int) < (List.length (c :: s) : Int))) = true := by simp
    cases h1 : letter c.toNat with
    | false =>
      rw [tloop_exit (r := .inr ()) (by
        have : nthI (c :: s) 0 = some c := rfl
        simp only [letters_Name_l1T, e1, cnd_t, this, bnd_s, letters_Letter_ok, h1]; rfl)]
      simp [isName, h1]
    | true =>
      rw [tloop_next (s' := ((1 : Nat) : Int)) (by
        have : nthI (c :: s) 0 = some c := rfl
        simp only [letters_Name_l1T, e1, cnd_t, this, bnd_s, letters_Letter_ok, h1]; rfl)]
      rw [key 1 () (by simp) (by omega)]
      simp only [List.drop_succ_cons, List.drop_zero, bnd_s, isName, h1, Bool.true_and]
      cases h2 : s.all inName <;> simp
theorem seineref1_Name_ok (s : Str) (h : s.length < 4611686018427387904) : seineref1_Name s = some (isName s) := by
  apply seineref1_Name_run
  have key := tloop_list (b := seineref1_Name_l1T s) s (fun k (_ : Unit) => (k : Int)) (fun r _ => if r.all (fun c => inName c) then Sum.inl () else Sum.inr ()) (fun k _ => 1 ≤ k)
    (by
      intro a _
      simp [seineref1_Name_l1T])
    (by
      intro k x r a hk hx hd hI
      have e1 : (decide ((k : Int) < (List.length s : Int))) = true := by simp; omega
      have e3 : IntKind.wrap .i64 ((k : Int) + 1) = ((k + 1 : Nat) : Int) := wadd (by omega)
      simp only [seineref1_Name_l1T, e1, cnd_t, nthI_nat, hx, bnd_s, seineref1_start_ok, seineref1_digit_ok, cnd_f, e3]
      cases h1 : letter x.toNat <;> cases h2 : digit x.toNat <;> simp [inName, h1, h2])
  unfold seineref1_Name_B
  cases s with
  | nil => rfl
  | cons c s =>
    have : nthI (c :: s) 0 = some c := rfl
    have e0 : ((c :: s) == ([] : Str)) = false := rfl
    simp only [e0, cnd_f, this, bnd_s, seineref1_start_ok]
    cases h1 : letter c.toNat with
    | false => simp [isName, h1]
    | true =>
      have := key 1 () (by simp) (by omega)
      rw [show ((1 : Nat) : Int) = 1 from rfl] at this
      simp only [Bool.not_true, cnd_f, this, List.drop_succ_cons, List.drop_zero, bnd_s, isName, h1, Bool.true_and]
      cases h2 : s.all inName <;> simp

/-! sizes -/
mutual
def szV : GValue → Nat
  | ⟨_, _, s, l, m⟩ => 1 + s.length + szVs l + szMs m
def szVs : List GValue → Nat
  | [] => 0
  | x :: l => szV x + szVs l
def szM : GMember → Nat
  | ⟨n, v⟩ => n.length + szV v
def szMs : List GMember → Nat
  | [] => 0
  | x :: l => szM x + szMs l
end
theorem szV_eq (v : GValue) : szV v = 1 + v.s.length + szVs v.l + szMs v.m := by cases v; simp only [szV]
theorem szM_eq (x : GMember) : szM x = x.name.length + szV x.v := by cases x; simp only [szM]
theorem szVs_mem {x : GValue} : ∀ {l : List GValue}, x ∈ l → szV x ≤ szVs l
  | a :: l, h => by
    simp only [szVs]
    rcases List.mem_cons.1 h with rfl | h
    · omega
    · have := szVs_mem h; omega
theorem szMs_mem {x : GMember} : ∀ {l : List GMember}, x ∈ l → szM x ≤ szMs l
  | a :: l, h => by
    simp only [szMs]
    rcases List.mem_cons.1 h with rfl | h
    · omega
    · have := szMs_mem h; omega
theorem szVs_len : ∀ (l : List GValue), l.length ≤ szVs l
  | [] => by simp [szVs]
  | a :: l => by have := szVs_len l; have := szV_eq a; simp only [szVs, List.length_cons]; omega
theorem szMs_len : ∀ (l : List GMember), l.length ≤ szMs l
  | [] => by simp [szMs]
  | a :: l => by have := szMs_len l; have := szM_eq a; have := szV_eq a.v; simp only [szMs, List.length_cons]; omega
theorem szVs_app : ∀ (l m : List GValue), szVs (l ++ m) = szVs l + szVs m
  | [], m => by simp [szVs]
  | a :: l, m => by simp only [List.cons_append, szVs, szVs_app l m]; omega
theorem seinekeep_Size_ok' : ∀ (n : Nat), n < 4611686018427387904 → ∀ v : GValue, szV v ≤ n → seinekeep_Size v = some (szV v : Int) := by
  intro n
  induction n with
  | zero => intro _ v h; have := szV_eq v; omega
  | succ n ih =>
    intro hn v h
    have hv := szV_eq v
    have hl := szVs_len v.l
    have hm := szMs_len v.m
    apply seinekeep_Size_run
    unfold seinekeep_Size_B
    have k1 := tloop_list (b := seinekeep_Size_l1T v) v.l (fun k (a : Nat) => ((a : Int), (k : Int))) (fun r a => ((a + szVs r : Nat) : Int)) (fun k a => a + szVs (v.l.drop k) ≤ 1 + v.s.length + szVs v.l)
      (by
        intro a _
        simp [seinekeep_Size_l1T, szVs])
      (by
        intro k x r a hk hx hd hI
        have hxm : x ∈ v.l := List.mem_of_getElem? hx
        have h1 := szVs_mem hxm
        have h2 := ih (by omega) x (by omega)
        rw [hd] at hI
        simp only [szVs] at hI
        have e1 : (decide ((k : Int) < (List.length v.l : Int))) = true := by simp; omega
        have e3 : IntKind.wrap .i64 ((k : Int) + 1) = ((k + 1 : Nat) : Int) := wadd (by omega)
        have e4 : IntKind.wrap .i64 ((a : Int) + (szV x : Int)) = ((a + szV x : Nat) : Int) := by rw [wi (by omega)]; omega
        refine .inr ⟨a + szV x, ?_, ?_, ?_⟩
        · simp only [seinekeep_Size_l1T, e1, cnd_t, nthI_nat, hx, bnd_s, h2, e3, e4]
        · have : v.l.drop (k + 1) = r := by rw [← List.tail_drop, hd]; rfl
          rw [this]; omega
        · simp only [szVs, Nat.add_assoc])
    have k2 := tloop_list (b := seinekeep_Size_l2T v) v.m (fun k (a : Nat) => ((a : Int), (k : Int))) (fun r a => ((a + szMs r : Nat) : Int)) (fun k a => a + szMs (v.m.drop k) ≤ 1 + v.s.length + szVs v.l + szMs v.m)
      (by
        intro a _
        simp [seinekeep_Size_l2T, szMs])
      (by
        intro k x r a hk hx hd hI
        have hxm : x ∈ v.m := List.mem_of_getElem? hx
        have h1 := szMs_mem hxm
        have h1' := szM_eq x
        have h2 := ih (by omega) x.v (by omega)
        rw [hd] at hI
        simp only [szMs] at hI
        have e1 : (decide ((k : Int) < (List.length v.m : Int))) = true := by simp; omega
        have e3 : IntKind.wrap .i64 ((k : Int) + 1) = ((k + 1 : Nat) : Int) := wadd (by omega)
        have e5 : IntKind.wrap .i64 ((a : Int) + (x.name.length : Int)) = ((a + x.name.length : Nat) : Int) := by rw [wi (by omega)]; omega
        have e4 : IntKind.wrap .i64 (((a + x.name.length : Nat) : Int) + (szV x.v : Int)) = ((a + szM x : Nat) : Int) := by rw [wi (by omega)]; omega
        refine .inr ⟨a + szM x, ?_, ?_, ?_⟩
        · simp only [seinekeep_Size_l2T, e1, cnd_t, nthI_nat, hx, bnd_s, h2, e3, e4, e5]
        · have : v.m.drop (k + 1) = r := by rw [← List.tail_drop, hd]; rfl
          rw [this]; omega
        · simp only [szMs, Nat.add_assoc])
    have e0 : IntKind.wrap .i64 (1 + (v.s.length : Int)) = ((1 + v.s.length : Nat) : Int) := by rw [wi (by omega)]; omega
    rw [e0, show (0 : Int) = ((0 : Nat) : Int) from rfl, k1 0 (1 + v.s.length) (by omega) (by simp)]
    simp only [List.drop_zero, bnd_s]
    rw [k2 0 (1 + v.s.length + szVs v.l) (by omega) (by simp)]
    simp only [List.drop_zero, bnd_s, hv]
theorem seinekeep_Size_ok (v : GValue) (h : szV v < 4611686018427387904) : seinekeep_Size v = some (szV v : Int) := seinekeep_Size_ok' _ h v (Nat.le_refl _)
mutual
theorem szV_bk : ∀ v : GValue, szV v ≤ bkValue v
  | ⟨_, _, s, l, m⟩ => by
    have h1 := szVs_bk l
    have h2 := szMs_bk m
    simp only [szV, bkValue, bk1, bkStr]; omega
theorem szVs_bk : ∀ l : List GValue, szVs l ≤ bkValues l
  | [] => by simp [szVs]
  | x :: l => by have := szV_bk x; have := szVs_bk l; simp only [szVs, bkValues]; omega
theorem szM_bk : ∀ x : GMember, szM x ≤ bkMember x
  | ⟨n, v⟩ => by have := szV_bk v; simp only [szM, bkMember, bkStr]; omega
theorem szMs_bk : ∀ l : List GMember, szMs l ≤ bkMembers l
  | [] => by simp [szMs]
  | x :: l => by have := szM_bk x; have := szMs_bk l; simp only [szMs, bkMembers]; omega
end
end Go.Proofs.Ytoddajoeiamidaa

/-
  Answers as trees: the typed functions of layer 32 as plain ones, and its laws.
-/
set_option linter.unusedVariables false
set_option linter.unusedSimpArgs false
open Go Go.Ev
namespace Go.Proofs.Ytoddajoeiamidaa

abbrev zv : GValue := ⟨0, 0, [], [], []⟩
def zipK : List Str → List GValue → List GMember
  | _, [] => []
  | [], v :: vs => ⟨[], v⟩ :: zipK [] vs
  | k :: ks, v :: vs => ⟨k, v⟩ :: zipK ks vs
mutual
def innerN : GNode → GValue
  | ⟨k, _, v, keys, l⟩ => bif k == 0 then v else bif k == 1 then (match upL l with | some vs => ⟨6, 0, [], vs, []⟩ | none => zv) else bif k == 2 then (match upL l with | some vs => ⟨7, 0, [], [], zipK keys vs⟩ | none => zv) else zv
def upL : List GNode → Option (List GValue)
  | [] => some []
  | x :: l => bif x.must && (innerN x).kind == 0 then none else match upL l with | some vs => some (innerN x :: vs) | none => none
end
def upN (n : GNode) : GValue × Bool := bif n.must && (innerN n).kind == 0 then (zv, false) else (innerN n, true)
theorem innerN_eq (n : GNode) : innerN n = bif n.kind == 0 then n.v else bif n.kind == 1 then (match upL n.l with | some vs => ⟨6, 0, [], vs, []⟩ | none => zv) else bif n.kind == 2 then (match upL n.l with | some vs => ⟨7, 0, [], [], zipK n.keys vs⟩ | none => zv) else zv := by
  cases n; simp only [innerN]
theorem upL_cons (x : GNode) (l : List GNode) : upL (x :: l) = bif !(upN x).2 then none else match upL l with | some vs => some ((upN x).1 :: vs) | none => none := by
  simp only [upL, upN]
  cases x.must && (innerN x).kind == 0 <;> rfl
def szK (keys : List Str) : Nat := sumL (fun k => k.length + 1) keys
mutual
def szN : GNode → Nat
  | ⟨_, _, v, keys, l⟩ => 1 + szV v + szK keys + szNs l
def szNs : List GNode → Nat
  | [] => 0
  | x :: l => szN x + szNs l
end
theorem szN_eq (n : GNode) : szN n = 1 + szV n.v + szK n.keys + szNs n.l := by cases n; simp only [szN]
theorem szNs_mem {x : GNode} : ∀ {l : List GNode}, x ∈ l → szN x ≤ szNs l
  | a :: l, h => by
    simp only [szNs]
    rcases List.mem_cons.1 h with rfl | h
    · omega
    · have := szNs_mem h; omega
theorem szNs_len : ∀ (l : List GNode), l.length ≤ szNs l
  | [] => by simp [szNs]
  | a :: l => by have := szNs_len l; have := szN_eq a; simp only [szNs, List.length_cons]; omega
theorem szK_len (keys : List Str) : keys.length ≤ szK keys := sumL_len _ (fun _ => by omega) keys

theorem upL_len : ∀ {l : List GNode} {vs : List GValue}, upL l = some vs → vs.length = l.length
  | [], vs, h => by simp [upL] at h; subst h; rfl
  | x :: l, vs, h => by
    simp only [upL] at h
    cases hc : x.must && (innerN x).kind == 0
    · rw [hc] at h
      cases hu : upL l with
      | none => rw [hu] at h; simp at h
      | some ws =>
        rw [hu] at h
        simp only [cond_false, Option.some.injEq] at h
        subst h
        simp [upL_len hu]
    · rw [hc] at h; simp at h

/-! the program's -/
theorem tree_key_ok (n : GNode) (k : Nat) : tree_key n (k : Int) = some ((n.keys[k]?).getD []) := by
  apply tree_key_run
  unfold tree_key_B
  by_cases h : k < n.keys.length
  · have e1 : (decide ((k : Int) < (List.length n.keys : Int))) = true := by simp; omega
    simp only [e1, cnd_t, nthI_nat, List.getElem?_eq_getElem h, bnd_s, Option.getD_some]
  · have e1 : (decide ((k : Int) < (List.length n.keys : Int))) = false := by simp; omega
    simp only [e1, cnd_f, List.getElem?_eq_none (Nat.le_of_not_lt h), Option.getD_none]
theorem zipK_cons (ks : List Str) (k : Nat) (v : GValue) (vs : List GValue) : zipK (ks.drop k) (v :: vs) = ⟨(ks[k]?).getD [], v⟩ :: zipK (ks.drop (k + 1)) vs := by
  by_cases h : k < ks.length
  · rw [List.drop_eq_getElem_cons h]
    simp [zipK, List.getElem?_eq_getElem h]
  · have h1 : ks.drop k = [] := List.drop_eq_nil_of_le (by omega)
    have h2 : ks.drop (k + 1) = [] := List.drop_eq_nil_of_le (by omega)
    rw [h1, h2]
    simp [zipK, List.getElem?_eq_none (Nat.le_of_not_lt h)]
theorem tree_inner_ok (n : GNode) (hl : n.l.length < 1073741824) (h : ∀ x ∈ n.l, tree_Up x = some (upN x)) : tree_inner n = some (innerN n) := by
  apply tree_inner_run
  rw [innerN_eq]
  unfold tree_inner_B
  cases h0 : n.kind == 0
  · cases h1 : n.kind == 1
    · cases h2 : n.kind == 2
      · rfl
      · have key := tloop_list (b := tree_inner_l2T n) n.l (fun k (a : List GMember × List Str) => ((k : Int), a.1, ([] : List GValue))) (fun r a => match upL r with | some vs => .inl ([], a.1 ++ zipK a.2 vs) | none => .inr ())
          (fun k a => a.2 = n.keys.drop k ∧ a.1.length = k)
          (by intro a _; simp [tree_inner_l2T, upL, zipK])
          (by
            intro k x r a hk hx hd ⟨hI, hI2⟩
            have e1 : (decide ((k : Int) < (List.length n.l : Int))) = true := by simp; omega
            have e3 : IntKind.wrap .i64 ((k : Int) + 1) = ((k + 1 : Nat) : Int) := wadd (by omega)
            have e4 : tapp a.1 [GMember.mk ((n.keys[k]?).getD []) (upN x).1] = some (a.1 ++ [GMember.mk ((n.keys[k]?).getD []) (upN x).1]) := tapp_ok (by simp only [List.length_singleton, lim_val]; omega)
            rw [upL_cons]
            simp only [tree_inner_l2T, e1, cnd_t, nthI_nat, hx, bnd_s, h x (List.mem_of_getElem? hx), h2, tree_key_ok, e3, e4]
            cases hu : (upN x).2
            · left; rfl
            · refine .inr ⟨(a.1 ++ [GMember.mk ((n.keys[k]?).getD []) (upN x).1], n.keys.drop (k + 1)), rfl, ⟨rfl, by simp [hI2]⟩, ?_⟩
              simp only [Bool.not_true, cond_false]
              cases hr : upL r with
              | none => rfl
              | some vs => simp only [hI, zipK_cons, List.append_assoc, List.singleton_append])
        have := key 0 ([], n.keys) (by omega) ⟨rfl, rfl⟩
        simp only [cnd_f, cnd_t, cond_false, cond_true]
        rw [show (0 : Int) = ((0 : Nat) : Int) from rfl, this]
        simp only [bnd_s, List.drop_zero, List.nil_append]
        cases upL n.l <;> rfl
    · have h2 : (n.kind == 2) = false := by
        have := beq_iff_eq.1 h1; rw [this]; rfl
      have key := tloop_list (b := tree_inner_l1T n) n.l (fun k (a : List GValue) => ((k : Int), ([] : List GMember), a)) (fun r a => match upL r with | some vs => .inl (a ++ vs, []) | none => .inr ()) (fun k a => a.length = k)
        (by intro a _; simp [tree_inner_l1T, upL])
        (by
          intro k x r a hk hx hd hI
          have e1 : (decide ((k : Int) < (List.length n.l : Int))) = true := by simp; omega
          have e3 : IntKind.wrap .i64 ((k : Int) + 1) = ((k + 1 : Nat) : Int) := wadd (by omega)
          have e4 : tapp a [(upN x).1] = some (a ++ [(upN x).1]) := tapp_ok (by simp only [List.length_singleton, lim_val]; omega)
          rw [upL_cons]
          simp only [tree_inner_l1T, e1, cnd_t, nthI_nat, hx, bnd_s, h x (List.mem_of_getElem? hx), h2, e3, e4]
          cases hu : (upN x).2
          · left; rfl
          · refine .inr ⟨a ++ [(upN x).1], rfl, by simp [hI], ?_⟩
            simp only [Bool.not_true, cond_false]
            cases hr : upL r with
            | none => rfl
            | some vs => simp)
      have := key 0 [] (by omega) rfl
      simp only [cnd_f, cnd_t, cond_false, cond_true]
      rw [show (0 : Int) = ((0 : Nat) : Int) from rfl, this]
      simp only [bnd_s, List.drop_zero, List.nil_append]
      cases upL n.l <;> rfl
  · rfl
theorem tree_Up_ok' : ∀ (m : Nat), m < 1073741824 → ∀ n : GNode, szN n ≤ m → tree_Up n = some (upN n) := by
  intro m
  induction m with
  | zero => intro _ n h; have := szN_eq n; omega
  | succ m ih =>
    intro hm n h
    have hn := szN_eq n
    have hl := szNs_len n.l
    apply tree_Up_run
    have hi := tree_inner_ok n (by omega) fun x hx => ih (by omega) x (by have := szNs_mem hx; omega)
    simp only [tree_Up_B, hi, bnd_s, upN]
    cases n.must
    · rfl
    · cases (innerN n).kind == 0 <;> rfl
theorem tree_Up_ok (n : GNode) (h : szN n < 1073741824) : tree_Up n = some (upN n) := tree_Up_ok' _ h n (Nat.le_refl _)

/-! the reference's -/
theorem seineref31_items_ok (l : List GNode) (hl : l.length < 1073741824) (h : ∀ x ∈ l, seineref31_Up x = some (upN x)) : seineref31_items l = some (match upL l with | some vs => ⟨6, 0, [], vs, []⟩ | none => zv) := by
  apply seineref31_items_run
  unfold seineref31_items_B
  have key := tloop_list (b := seineref31_items_l1T l) l (fun k (a : List GValue) => ((k : Int), a)) (fun r a => match upL r with | some vs => .inl (a ++ vs) | none => .inr ()) (fun k a => a.length = k)
    (by intro a _; simp [seineref31_items_l1T, upL])
    (by
      intro k x r a hk hx hd hI
      have e1 : (decide ((k : Int) < (List.length l : Int))) = true := by simp; omega
      have e3 : IntKind.wrap .i64 ((k : Int) + 1) = ((k + 1 : Nat) : Int) := wadd (by omega)
      have e4 : tapp a [(upN x).1] = some (a ++ [(upN x).1]) := tapp_ok (by simp only [List.length_singleton, lim_val]; omega)
      rw [upL_cons]
      simp only [seineref31_items_l1T, e1, cnd_t, nthI_nat, hx, bnd_s, h x (List.mem_of_getElem? hx), e3, e4]
      cases hu : (upN x).2
      · left; rfl
      · refine .inr ⟨a ++ [(upN x).1], rfl, by simp [hI], ?_⟩
        simp only [Bool.not_true, cond_false]
        cases hr : upL r with
        | none => rfl
        | some vs => simp)
  have := key 0 [] (by omega) rfl
  rw [show (0 : Int) = ((0 : Nat) : Int) from rfl, this]
  simp only [bnd_s, List.drop_zero, List.nil_append]
  cases upL l <;> rfl
theorem seineref31_parts_ok (keys : List Str) (l : List GNode) (hl : l.length < 1073741824) (h : ∀ x ∈ l, seineref31_Up x = some (upN x)) : seineref31_parts keys l = some (match upL l with | some vs => ⟨7, 0, [], [], zipK keys vs⟩ | none => zv) := by
  apply seineref31_parts_run
  unfold seineref31_parts_B
  have key := tloop_list (b := seineref31_parts_l1T keys l) l (fun k (a : List GMember × List Str) => ((k : Int), a.1)) (fun r a => match upL r with | some vs => .inl (a.1 ++ zipK a.2 vs) | none => .inr ())
    (fun k a => a.2 = keys.drop k ∧ a.1.length = k)
    (by intro a _; simp [seineref31_parts_l1T, upL, zipK])
    (by
      intro k x r a hk hx hd ⟨hI, hI2⟩
      have e1 : (decide ((k : Int) < (List.length l : Int))) = true := by simp; omega
      have e3 : IntKind.wrap .i64 ((k : Int) + 1) = ((k + 1 : Nat) : Int) := wadd (by omega)
      have e4 : ∀ s : Str, tapp a.1 [GMember.mk s (upN x).1] = some (a.1 ++ [GMember.mk s (upN x).1]) := fun s => tapp_ok (by simp only [List.length_singleton, lim_val]; omega)
      rw [upL_cons]
      simp only [seineref31_parts_l1T, e1, cnd_t, nthI_nat, hx, bnd_s, h x (List.mem_of_getElem? hx), e3, e4]
      cases hu : (upN x).2
      · left; rfl
      · refine .inr ⟨(a.1 ++ [GMember.mk ((keys[k]?).getD []) (upN x).1], keys.drop (k + 1)), ?_, ⟨rfl, by simp [hI2]⟩, ?_⟩
        · by_cases hk2 : k < keys.length
          · have e5 : (decide ((k : Int) < (List.length keys : Int))) = true := by simp; omega
            simp only [e5, cnd_t, List.getElem?_eq_getElem hk2, bnd_s, Option.getD_some]; rfl
          · have e5 : (decide ((k : Int) < (List.length keys : Int))) = false := by simp; omega
            simp only [e5, cnd_f, List.getElem?_eq_none (Nat.le_of_not_lt hk2), bnd_s, Option.getD_none]; rfl
        · simp only [Bool.not_true, cond_false]
          cases hr : upL r with
          | none => rfl
          | some vs => simp only [hI, zipK_cons, List.append_assoc, List.singleton_append])
  have := key 0 ([], keys) (by omega) ⟨rfl, rfl⟩
  rw [show (0 : Int) = ((0 : Nat) : Int) from rfl, this]
  simp only [bnd_s, List.drop_zero, List.nil_append]
  cases upL l <;> rfl
theorem seineref31_Up_ok' : ∀ (m : Nat), m < 1073741824 → ∀ n : GNode, szN n ≤ m → seineref31_Up n = some (upN n) := by
  intro m
  induction m with
  | zero => intro _ n h; have := szN_eq n; omega
  | succ m ih =>
    intro hm n h
    have hn := szN_eq n
    have hl := szNs_len n.l
    have hch : ∀ x ∈ n.l, seineref31_Up x = some (upN x) := fun x hx => ih (by omega) x (by have := szNs_mem hx; omega)
    apply seineref31_Up_run
    simp only [seineref31_Up_B, seineref31_items_ok n.l (by omega) hch, seineref31_parts_ok n.keys n.l (by omega) hch, bnd_s, upN, innerN_eq n]
    cases n.kind == 0
    · cases n.kind == 1
      · cases n.kind == 2
        · cases n.must <;> rfl
        · simp only [cnd_f, cnd_t, cond_false, cond_true]
          cases upL n.l <;> cases n.must <;> rfl
      · simp only [cnd_f, cnd_t, cond_false, cond_true]
        cases upL n.l <;> cases n.must <;> rfl
    · simp only [cnd_t, cond_true]
      cases n.v.kind == 0 <;> cases n.must <;> rfl
theorem seineref31_Up_ok (n : GNode) (h : szN n < 1073741824) : seineref31_Up n = some (upN n) := seineref31_Up_ok' _ h n (Nat.le_refl _)
end Go.Proofs.Ytoddajoeiamidaa

/-
  The laws of layer 32, of the typed functions.
-/
set_option linter.unusedVariables false
set_option linter.unusedSimpArgs false
open Go Go.Ev
namespace Go.Proofs.Ytoddajoeiamidaa

/-! a value is the same as itself -/
theorem members_of (m : List GMember) (hm : m.length < 1073741824) (h : ∀ x ∈ m, seineref1_Same x.v x.v = some true) : seineref1_Members m m = some true := by
  apply seineref1_Members_run
  unfold seineref1_Members_B
  have key := tloop_list (b := seineref1_Members_l1T m m) m (fun k (_ : Unit) => (k : Int)) (fun r _ => Sum.inl ()) (fun _ _ => True)
    (by intro a _; simp [seineref1_Members_l1T])
    (by
      intro k x r a hk hx hd _
      have e1 : (decide ((k : Int) < (List.length m : Int))) = true := by simp; omega
      have e3 : IntKind.wrap .i64 ((k : Int) + 1) = ((k + 1 : Nat) : Int) := wadd (by omega)
      refine .inr ⟨(), ?_, trivial, rfl⟩
      simp only [seineref1_Members_l1T, e1, cnd_t, nthI_nat, hx, bnd_s, beq_self_eq_true, Bool.not_true, cnd_f, h x (List.mem_of_getElem? hx), e3])
  have := key 0 () (by omega) trivial
  rw [show (0 : Int) = ((0 : Nat) : Int) from rfl, this]
  simp
theorem seineref1_Same_self' : ∀ (n : Nat), n < 1073741824 → ∀ v : GValue, szV v ≤ n → seineref1_Same v v = some true := by
  intro n
  induction n with
  | zero => intro _ v h; have := szV_eq v; omega
  | succ n ih =>
    intro hn v h
    have hv := szV_eq v
    have hl := szVs_len v.l
    have hm := szMs_len v.m
    apply seineref1_Same_run
    unfold seineref1_Same_B
    have key := tloop_list (b := seineref1_Same_l1T v v) v.l (fun k (_ : Unit) => (k : Int)) (fun r _ => Sum.inl ()) (fun _ _ => True)
      (by intro a _; simp [seineref1_Same_l1T])
      (by
        intro k x r a hk hx hd _
        have e1 : (decide ((k : Int) < (List.length v.l : Int))) = true := by simp; omega
        have e3 : IntKind.wrap .i64 ((k : Int) + 1) = ((k + 1 : Nat) : Int) := wadd (by omega)
        have hs := ih (by omega) x (by have := szVs_mem (List.mem_of_getElem? hx); omega)
        refine .inr ⟨(), ?_, trivial, rfl⟩
        simp only [seineref1_Same_l1T, e1, cnd_t, nthI_nat, hx, bnd_s, hs, Bool.not_true, cnd_f, e3])
    have hk := key 0 () (by omega) trivial
    have hmm := members_of v.m (by omega) fun x hx => ih (by omega) x.v (by have := szMs_mem hx; have := szM_eq x; omega)
    rw [show (0 : Int) = ((0 : Nat) : Int) from rfl, hk]
    simp [hmm]
theorem seineref1_Same_self (v : GValue) (h : szV v < 1073741824) : seineref1_Same v v = some true := seineref1_Same_self' _ h v (Nat.le_refl _)

/-! what is told is no more than what is there -/
theorem szVs_zip : ∀ (ks : List Str) (vs : List GValue), szMs (zipK ks vs) ≤ szK ks + szVs vs
  | _, [] => by simp [zipK, szMs, szVs]
  | [], v :: vs => by have := szVs_zip [] vs; simp only [zipK, szMs, szM, szVs, szK, sumL, List.length_nil] at this ⊢; omega
  | k :: ks, v :: vs => by have := szVs_zip ks vs; simp only [zipK, szMs, szM, szVs, szK, sumL] at this ⊢; omega
mutual
theorem szV_inner : ∀ n : GNode, szV (innerN n) ≤ szN n
  | ⟨k, mu, v, keys, l⟩ => by
    have h := szVs_up l
    have z : szV zv = 1 := by simp [szV, szVs, szMs]
    simp only [innerN, szN]
    cases k == 0
    · cases k == 1
      · cases k == 2
        · simp only [cond_false]; omega
        · simp only [cond_false, cond_true]
          cases hu : upL l with
          | none => simp only; omega
          | some vs =>
            have h1 := h vs hu
            have h2 := szVs_zip keys vs
            simp only [szV, szVs, List.length_nil]; omega
      · simp only [cond_false, cond_true]
        cases hu : upL l with
        | none => simp only; omega
        | some vs => have h1 := h vs hu; simp only [szV, szMs, List.length_nil]; omega
    · simp only [cond_true]; omega
theorem szVs_up : ∀ l : List GNode, ∀ vs, upL l = some vs → szVs vs ≤ szNs l
  | [], vs, h => by simp [upL] at h; subst h; simp [szVs]
  | x :: l, vs, h => by
    have h1 := szV_inner x
    have h2 := szVs_up l
    simp only [upL] at h
    cases hc : x.must && (innerN x).kind == 0
    · rw [hc] at h
      cases hu : upL l with
      | none => rw [hu] at h; simp at h
      | some ws =>
        rw [hu] at h
        simp only [cond_false, Option.some.injEq] at h
        subst h
        have := h2 ws hu
        simp only [szVs, szNs]; omega
    · rw [hc] at h; simp at h
end
theorem szV_upN (n : GNode) : szV (upN n).1 ≤ szN n := by
  have := szV_inner n
  have h2 := szN_eq n
  have z : szV zv = 1 := by simp [szV, szVs, szMs]
  unfold upN
  cases n.must && (innerN n).kind == 0
  · exact this
  · simp only [cond_true]; omega

/-! sizes -/
theorem seinelaw32_Size_ok' : ∀ (n : Nat), n < 1073741824 → ∀ x : GNode, szN x ≤ n → seinelaw32_Size x = some (szN x : Int) := by
  intro n
  induction n with
  | zero => intro _ x h; have := szN_eq x; omega
  | succ n ih =>
    intro hn x h
    have hv := szN_eq x
    have hl := szNs_len x.l
    have hk0 := szK_len x.keys
    have hk1 : szK x.keys = x.keys.length + sumL (fun k => k.length) x.keys := by
      unfold szK
      generalize x.keys = ks
      induction ks with
      | nil => rfl
      | cons a ks ihk => simp only [sumL, List.length_cons]; omega
    apply seinelaw32_Size_run
    unfold seinelaw32_Size_B
    have k1 := tloop_list (b := seinelaw32_Size_l1T x) x.keys (fun k (a : Nat) => ((a : Int), (k : Int))) (fun r a => ((a + sumL (fun k => k.length) r : Nat) : Int)) (fun k a => a + sumL (fun k => k.length) (x.keys.drop k) ≤ szN x)
      (by intro a _; simp [seinelaw32_Size_l1T, sumL])
      (by
        intro k y r a hk hx hd hI
        rw [hd] at hI
        simp only [sumL] at hI
        have e1 : (decide ((k : Int) < (List.length x.keys : Int))) = true := by simp; omega
        have e3 : IntKind.wrap .i64 ((k : Int) + 1) = ((k + 1 : Nat) : Int) := wadd (by omega)
        have e4 : IntKind.wrap .i64 ((a : Int) + (y.length : Int)) = ((a + y.length : Nat) : Int) := by rw [wi (by omega)]; omega
        refine .inr ⟨a + y.length, ?_, ?_, ?_⟩
        · simp only [seinelaw32_Size_l1T, e1, cnd_t, nthI_nat, hx, bnd_s, e3, e4]
        · have : x.keys.drop (k + 1) = r := by rw [← List.tail_drop, hd]; rfl
          rw [this]; omega
        · simp only [sumL, Nat.add_assoc])
    have k2 := tloop_list (b := seinelaw32_Size_l2T x) x.l (fun k (a : Nat) => ((a : Int), (k : Int))) (fun r a => ((a + szNs r : Nat) : Int)) (fun k a => a + szNs (x.l.drop k) ≤ szN x)
      (by intro a _; simp [seinelaw32_Size_l2T, szNs])
      (by
        intro k y r a hk hx hd hI
        have h1 := szNs_mem (List.mem_of_getElem? hx)
        have h2 := ih (by omega) y (by omega)
        rw [hd] at hI
        simp only [szNs] at hI
        have e1 : (decide ((k : Int) < (List.length x.l : Int))) = true := by simp; omega
        have e3 : IntKind.wrap .i64 ((k : Int) + 1) = ((k + 1 : Nat) : Int) := wadd (by omega)
        have e4 : IntKind.wrap .i64 ((a : Int) + (szN y : Int)) = ((a + szN y : Nat) : Int) := by rw [wi (by omega)]; omega
        refine .inr ⟨a + szN y, ?_, ?_, ?_⟩
        · simp only [seinelaw32_Size_l2T, e1, cnd_t, nthI_nat, hx, bnd_s, h2, e3, e4]
        · have : x.l.drop (k + 1) = r := by rw [← List.tail_drop, hd]; rfl
          rw [this]; omega
        · simp only [szNs, Nat.add_assoc])
    have e0 : IntKind.wrap .i64 (1 + (szV x.v : Int)) = ((1 + szV x.v : Nat) : Int) := by rw [wi (by omega)]; omega
    have e1 : IntKind.wrap .i64 (((1 + szV x.v : Nat) : Int) + (x.keys.length : Int)) = ((1 + szV x.v + x.keys.length : Nat) : Int) := by rw [wi (by omega)]; omega
    rw [seinekeep_Size_ok x.v (by omega)]
    simp only [bnd_s]
    rw [e0, e1, show (0 : Int) = ((0 : Nat) : Int) from rfl, k1 0 (1 + szV x.v + x.keys.length) (by omega) (by simp only [List.drop_zero]; omega)]
    simp only [List.drop_zero, bnd_s]
    rw [k2 0 _ (by omega) (by simp only [List.drop_zero]; omega)]
    simp only [List.drop_zero, bnd_s, hv]
    congr 1
    omega
theorem seinelaw32_Size_ok (x : GNode) (h : szN x < 1073741824) : seinelaw32_Size x = some (szN x : Int) := seinelaw32_Size_ok' _ h x (Nat.le_refl _)

/-! what stands at a place of a list -/
theorem tree_At_item (v : GValue) (i : Nat) (hk : v.kind = 6) (hl : v.l.length < 1073741824) : tree_At v [⟨[], (i : Int)⟩] = some (match v.l[i]? with | some x => (x, true) | none => (zv, false)) := by
  apply tree_At_run
  unfold tree_At_B
  have e1 : (decide ((0 : Int) < (List.length [(⟨[], (i : Int)⟩ : GStep)] : Int))) = true := rfl
  have e2 : nthI [(⟨[], (i : Int)⟩ : GStep)] 0 = some ⟨[], (i : Int)⟩ := rfl
  have e3 : (([] : Str) == ([] : Str)) = true := rfl
  have e4 : ((6 : Int) == 0) = false := rfl
  have e5 : ((6 : Int) == 6) = true := rfl
  have e6 : (decide ((i : Int) ≥ 0)) = true := by simp
  by_cases h : i < v.l.length
  · have e7 : (decide ((i : Int) < (List.length v.l : Int))) = true := by simp; omega
    have hx := List.getElem?_eq_getElem h
    rw [tloop_next (s' := (1, v.l[i].kind, v.l[i].n, v.l[i].s, v.l[i].l, v.l[i].m)) (by
      simp only [tree_At_l1T, e1, cnd_t, e2, bnd_s, hk, e4, cnd_f, e3, Bool.not_true, e5, e6, e7, nthI_nat, hx]; rfl)]
    rw [tloop_exit (r := .inl (v.l[i].kind, v.l[i].n, v.l[i].s, v.l[i].l, v.l[i].m)) (by rfl)]
    simp only [bnd_s, elim_inl, hx]
    generalize v.l[i] = y
    cases y; rfl
  · have e7 : (decide ((i : Int) < (List.length v.l : Int))) = false := by simp; omega
    have hx := List.getElem?_eq_none (Nat.le_of_not_lt h)
    rw [tloop_exit (r := .inr ()) (by
      simp only [tree_At_l1T, e1, cnd_t, e2, bnd_s, hk, e4, cnd_f, e3, Bool.not_true, e5, e6, e7])]
    simp only [bnd_s, elim_inr, hx]
theorem seinelaw32_awake_ok : seinelaw32_awake = some true := by
  apply seinelaw32_awake_run
  unfold seinelaw32_awake_B
  rw [tree_Up_ok _ (by decide), tree_Up_ok _ (by decide), show tree_At (GValue.mk 6 0 [] [GValue.mk 2 4 [] [] []] []) [GStep.mk [] 0] = some (GValue.mk 2 4 [] [] [], true) from tree_At_item _ 0 rfl (by decide)]
  rfl

/-! the laws -/
theorem seinelaw32_TreeUps_ok (n : GNode) (h : szN n < 1073741824) : seinelaw32_TreeUps n = some true := by
  apply seinelaw32_TreeUps_run
  have hs := seineref1_Same_self (upN n).1 (Nat.lt_of_le_of_lt (szV_upN n) h)
  simp [seinelaw32_TreeUps_B, seinelaw32_Size_ok n h, seinelaw32_awake_ok, tree_Up_ok n h, seineref31_Up_ok n h, hs, cnd_same]

mutual
def emptyN : GNode → Bool
  | ⟨k, _, v, _, l⟩ => bif k == 0 then v.kind == 0 else bif k == 1 || k == 2 then emptyL l else true
def emptyL : List GNode → Bool
  | [] => false
  | x :: l => (x.must && emptyN x) || emptyL l
end
theorem emptyN_eq (n : GNode) : emptyN n = bif n.kind == 0 then n.v.kind == 0 else bif n.kind == 1 || n.kind == 2 then emptyL n.l else true := by cases n; simp only [emptyN]
theorem seinelaw32_empty_ok' : ∀ (m : Nat), m < 1073741824 → ∀ n : GNode, szN n ≤ m → seinelaw32_empty n = some (emptyN n) := by
  intro m
  induction m with
  | zero => intro _ n h; have := szN_eq n; omega
  | succ m ih =>
    intro hm n h
    have hn := szN_eq n
    have hl := szNs_len n.l
    have hch : ∀ x ∈ n.l, seinelaw32_empty x = some (emptyN x) := fun x hx => ih (by omega) x (by have := szNs_mem hx; omega)
    apply seinelaw32_empty_run
    unfold seinelaw32_empty_B
    have k1 := tloop_list (b := seinelaw32_empty_l1T n) n.l (fun k (_ : Unit) => (k : Int)) (fun r _ => bif emptyL r then Sum.inr () else Sum.inl ()) (fun _ _ => True)
      (by intro a _; simp [seinelaw32_empty_l1T, emptyL])
      (by
        intro k x r a hk hx hd _
        have e1 : (decide ((k : Int) < (List.length n.l : Int))) = true := by simp; omega
        have e3 : IntKind.wrap .i64 ((k : Int) + 1) = ((k + 1 : Nat) : Int) := wadd (by omega)
        simp only [seinelaw32_empty_l1T, e1, cnd_t, nthI_nat, hx, bnd_s, hch x (List.mem_of_getElem? hx), e3, emptyL]
        cases x.must <;> cases emptyN x <;> simp)
    have k2 := tloop_list (b := seinelaw32_empty_l2T n) n.l (fun k (_ : Unit) => (k : Int)) (fun r _ => bif emptyL r then Sum.inr () else Sum.inl ()) (fun _ _ => True)
      (by intro a _; simp [seinelaw32_empty_l2T, emptyL])
      (by
        intro k x r a hk hx hd _
        have e1 : (decide ((k : Int) < (List.length n.l : Int))) = true := by simp; omega
        have e3 : IntKind.wrap .i64 ((k : Int) + 1) = ((k + 1 : Nat) : Int) := wadd (by omega)
        simp only [seinelaw32_empty_l2T, e1, cnd_t, nthI_nat, hx, bnd_s, hch x (List.mem_of_getElem? hx), e3, emptyL]
        cases x.must <;> cases emptyN x <;> simp)
    have k1 := k1 0 () (by omega) trivial
    have k2 := k2 0 () (by omega) trivial
    rw [show (0 : Int) = ((0 : Nat) : Int) from rfl] 
    rw [k1, k2, emptyN_eq]
    simp only [List.drop_zero, bnd_s]
    rw [show (((0 : Nat) : Int)) = 0 from rfl]
    cases n.kind == 0
    · cases n.kind == 1
      · cases n.kind == 2
        · rfl
        · cases emptyL n.l <;> simp
      · cases emptyL n.l <;> simp
    · rfl
theorem seinelaw32_empty_ok (n : GNode) (h : szN n < 1073741824) : seinelaw32_empty n = some (emptyN n) := seinelaw32_empty_ok' _ h n (Nat.le_refl _)
mutual
theorem inner_empty : ∀ n : GNode, ((innerN n).kind == 0) = emptyN n
  | ⟨k, mu, v, keys, l⟩ => by
    have h := upL_empty l
    simp only [innerN, emptyN]
    cases k == 0
    · cases k == 1
      · cases k == 2
        · rfl
        · simp only [cond_false, cond_true, Bool.or_true]
          cases hu : upL l with
          | none => rw [hu] at h; simp only [Option.isNone_none] at h; rw [← h]; rfl
          | some vs => rw [hu] at h; simp only [Option.isNone_some] at h; rw [← h]; rfl
      · simp only [cond_false, cond_true, Bool.true_or]
        cases hu : upL l with
        | none => rw [hu] at h; simp only [Option.isNone_none] at h; rw [← h]; rfl
        | some vs => rw [hu] at h; simp only [Option.isNone_some] at h; rw [← h]; rfl
    · rfl
theorem upL_empty : ∀ l : List GNode, (upL l).isNone = emptyL l
  | [] => rfl
  | x :: l => by
    have h1 := inner_empty x
    have h2 := upL_empty l
    simp only [upL, emptyL, h1, ← h2]
    cases x.must && emptyN x
    · simp only [cond_false, Bool.false_or]
      cases upL l <;> rfl
    · rfl
end
theorem seinelaw32_TreeChains_ok (n : GNode) (h : szN n < 1073741824) : seinelaw32_TreeChains n = some true := by
  apply seinelaw32_TreeChains_run
  have hi := inner_empty n
  simp only [seinelaw32_TreeChains_B, seinelaw32_Size_ok n h, seinelaw32_awake_ok, tree_Up_ok n h, seinelaw32_empty_ok n h, bnd_s]
  have h1 : (upN n).2 = !(n.must && emptyN n) := by
    unfold upN; rw [hi]; cases n.must && emptyN n <;> rfl
  have h2 : ((upN n).1.kind == 0) = emptyN n := by
    unfold upN; rw [hi]
    cases hm : n.must && emptyN n
    · exact hi
    · simp only [Bool.and_eq_true] at hm; rw [hm.2]; rfl
  rw [h1, h2]
  cases n.must <;> cases emptyN n <;> simp [cnd_same]
theorem seinelaw32_TreeMusts_ok (n : GNode) (h : szN n < 1073741824) : seinelaw32_TreeMusts n = some true := by
  apply seinelaw32_TreeMusts_run
  have s1 : szN ⟨n.kind, true, n.v, n.keys, n.l⟩ = szN n := by rw [szN_eq, szN_eq n]
  have s2 : szN ⟨n.kind, false, n.v, n.keys, n.l⟩ = szN n := by rw [szN_eq, szN_eq n]
  have i1 : innerN ⟨n.kind, true, n.v, n.keys, n.l⟩ = innerN n := by rw [innerN_eq, innerN_eq n]
  have i2 : innerN ⟨n.kind, false, n.v, n.keys, n.l⟩ = innerN n := by rw [innerN_eq, innerN_eq n]
  have u1 : upN ⟨n.kind, true, n.v, n.keys, n.l⟩ = bif (innerN n).kind == 0 then (zv, false) else (innerN n, true) := by unfold upN; rw [i1]; rfl
  have u2 : upN ⟨n.kind, false, n.v, n.keys, n.l⟩ = (innerN n, true) := by unfold upN; rw [i2]; rfl
  have hz : seineref1_Same zv zv = some true := seineref1_Same_self zv (by decide)
  have hs := seineref1_Same_self (innerN n) (Nat.lt_of_le_of_lt (szV_inner n) h)
  simp only [seinelaw32_TreeMusts_B, seinelaw32_Size_ok n h, seinelaw32_awake_ok, bnd_s]
  rw [tree_Up_ok _ (by rw [s1]; exact h), tree_Up_ok _ (by rw [s2]; exact h), u1, u2]
  simp only [bnd_s]
  cases (innerN n).kind == 0
  · simp [hs, cnd_same]
  · simp [hz, cnd_same]
end Go.Proofs.Ytoddajoeiamidaa

/-
  A list without a null that goes up has just as many items: the law TreeParts, of the typed functions.
-/
set_option linter.unusedVariables false
set_option linter.unusedSimpArgs false
open Go Go.Ev
namespace Go.Proofs.Ytoddajoeiamidaa

theorem upL_all : ∀ l : List GNode, (upL l).isSome = l.all fun x => (upN x).2
  | [] => rfl
  | x :: l => by
    have h := upL_all l
    rw [upL_cons, List.all_cons, ← h]
    cases (upN x).2
    · rfl
    · simp only [Bool.not_true, cond_false, Bool.true_and]
      cases upL l <;> rfl
theorem upL_get : ∀ {l : List GNode} {vs : List GValue}, upL l = some vs → ∀ {i : Nat} {x : GNode}, l[i]? = some x → vs[i]? = some (upN x).1 ∧ (upN x).2 = true
  | [], vs, h, i, x, hx => by simp at hx
  | y :: l, vs, h, i, x, hx => by
    rw [upL_cons] at h
    cases hc : (upN y).2
    · rw [hc] at h; simp at h
    · rw [hc] at h
      simp only [Bool.not_true, cond_false] at h
      cases hu : upL l with
      | none => rw [hu] at h; simp at h
      | some ws =>
        rw [hu] at h
        simp only [Option.some.injEq] at h
        subst h
        cases i with
        | zero => simp at hx; subst hx; exact ⟨rfl, hc⟩
        | succ i => simpa using upL_get hu (by simpa using hx)
theorem zipK_get : ∀ (ks : List Str) (vs : List GValue) (i : Nat) (v : GValue), vs[i]? = some v → (zipK ks vs)[i]? = some ⟨(ks[i]?).getD [], v⟩
  | _, [], i, v, h => by simp at h
  | [], w :: vs, 0, v, h => by simp at h; subst h; simp [zipK]
  | [], w :: vs, i + 1, v, h => by have := zipK_get [] vs i v (by simpa using h); simpa [zipK] using this
  | k :: ks, w :: vs, 0, v, h => by simp at h; subst h; simp [zipK]
  | k :: ks, w :: vs, i + 1, v, h => by have := zipK_get ks vs i v (by simpa using h); simpa [zipK] using this
theorem zipK_len : ∀ (ks : List Str) (vs : List GValue), (zipK ks vs).length = vs.length
  | _, [] => by simp [zipK]
  | [], w :: vs => by simp [zipK, zipK_len [] vs]
  | k :: ks, w :: vs => by simp [zipK, zipK_len ks vs]
theorem seinelaw32_TreeParts_ok (l : List GNode) (keys : List Str) (h : szK keys + szNs l < 1073741800) : seinelaw32_TreeParts l keys = some true := by
  apply seinelaw32_TreeParts_run
  have z : szV zv = 1 := by simp [szV, szVs, szMs]
  have hl := szNs_len l
  have hks := szK_len keys
  have hup : ∀ x ∈ l, tree_Up x = some (upN x) := fun x hx => tree_Up_ok x (by have := szNs_mem hx; omega)
  have s0 : szN ⟨0, false, zv, keys, l⟩ < 1073741824 := by simp only [szN]; omega
  have s1 : szN ⟨1, false, zv, [], l⟩ < 1073741824 := by simp only [szN, szK, sumL]; omega
  have s2 : szN ⟨2, false, zv, keys, l⟩ < 1073741824 := by simp only [szN]; omega
  have u1 : upN ⟨1, false, zv, [], l⟩ = (match upL l with | some vs => ⟨6, 0, [], vs, []⟩ | none => zv, true) := by
    simp only [upN, innerN_eq]; rfl
  have u2 : upN ⟨2, false, zv, keys, l⟩ = (match upL l with | some vs => ⟨7, 0, [], [], zipK keys vs⟩ | none => zv, true) := by
    simp only [upN, innerN_eq]; rfl
  have hsame : ∀ x ∈ l, seineref1_Same (upN x).1 (upN x).1 = some true := fun x hx => seineref1_Same_self _ (by have := szV_upN x; have := szNs_mem hx; omega)
  have k1 := tloop_list (b := seinelaw32_TreeParts_l1T l) l (fun k (a : Bool) => (a, (k : Int))) (fun r a => a && r.all fun x => (upN x).2) (fun _ _ => True)
    (by intro a _; simp [seinelaw32_TreeParts_l1T])
    (by
      intro k x r a hk hx hd _
      have e1 : (decide ((k : Int) < (List.length l : Int))) = true := by simp; omega
      have e3 : IntKind.wrap .i64 ((k : Int) + 1) = ((k + 1 : Nat) : Int) := wadd (by omega)
      refine .inr ⟨a && (upN x).2, ?_, trivial, by rw [List.all_cons, Bool.and_assoc]⟩
      simp only [seinelaw32_TreeParts_l1T, e1, cnd_t, nthI_nat, hx, bnd_s, hup x (List.mem_of_getElem? hx), e3]
      cases a <;> rfl)
  have k1' := k1 0 true (by omega) trivial
  simp only [List.drop_zero, Bool.true_and, ← upL_all] at k1'
  rw [show (((0 : Nat) : Int)) = 0 from rfl] at k1'
  simp only [seinelaw32_TreeParts_B, seinelaw32_Size_ok _ s0, seinelaw32_awake_ok, tree_Up_ok _ s1, tree_Up_ok _ s2, bnd_s, k1', u1, u2]
  cases hu : upL l with
  | none => simp [cnd_same]
  | some vs =>
    have hvl := upL_len hu
    have hzl := zipK_len keys vs
    have k2 := tloop_list (b := seinelaw32_TreeParts_l2T l keys (⟨6, 0, [], vs, []⟩, true) (⟨7, 0, [], [], zipK keys vs⟩, true)) l (fun k (_ : Unit) => (k : Int)) (fun r _ => Sum.inl ()) (fun _ _ => True)
      (by intro a _; simp [seinelaw32_TreeParts_l2T])
      (by
        intro k x r a hk hx hd _
        have hm := List.mem_of_getElem? hx
        have e1 : (decide ((k : Int) < (List.length l : Int))) = true := by simp; omega
        have e3 : IntKind.wrap .i64 ((k : Int) + 1) = ((k + 1 : Nat) : Int) := wadd (by omega)
        obtain ⟨g1, g2⟩ := upL_get hu hx
        have e4 : tree_At ⟨6, 0, [], vs, []⟩ [⟨[], (k : Int)⟩] = some ((upN x).1, true) := by
          rw [tree_At_item _ k rfl (by show vs.length < _; omega)]
          simp only [g1]
        have e5 : (zipK keys vs)[k]? = some ⟨(keys[k]?).getD [], (upN x).1⟩ := zipK_get keys vs k _ g1
        refine .inr ⟨(), ?_, trivial, rfl⟩
        simp only [seinelaw32_TreeParts_l2T, e1, cnd_t, nthI_nat, hx, bnd_s, hup x hm, e3, e4, e5, hsame x hm, Bool.not_true, cnd_f]
        by_cases hkk : k < keys.length
        · have e6 : (decide ((k : Int) < (List.length keys : Int))) = true := by simp; omega
          simp only [e6, cnd_t, List.getElem?_eq_getElem hkk, bnd_s, Option.getD_some, beq_self_eq_true, Bool.not_true, cnd_f]
        · have e6 : (decide ((k : Int) < (List.length keys : Int))) = false := by simp; omega
          simp only [e6, cnd_f])
    have k2' := k2 0 () (by omega) trivial
    rw [show (((0 : Nat) : Int)) = 0 from rfl] at k2'
    have hat : tree_At ⟨6, 0, [], vs, []⟩ [⟨[], (l.length : Int)⟩] = some (zv, false) := by
      rw [tree_At_item _ l.length rfl (by show vs.length < _; omega)]
      simp only [List.getElem?_eq_none (show vs.length ≤ l.length by omega)]
    have c1 : (((vs.length : Nat) : Int) != (l.length : Int)) = false := by rw [hvl]; simp
    have c2 : (((zipK keys vs).length : Int) != (l.length : Int)) = false := by rw [hzl, hvl]; simp
    have c3 : ((6 : Int) != 6) = false := rfl
    have c4 : ((7 : Int) != 7) = false := rfl
    simp only [Option.isSome_some, Bool.not_true, cnd_f, c1, c2, c3, c4, k2', bnd_s, elim_inl, hat, Bool.not_false, cnd_t, cnd_same]
end Go.Proofs.Ytoddajoeiamidaa

/-
  Sizes of trees and what their readings hold.
-/
set_option linter.unusedVariables false
set_option linter.unusedSimpArgs false
open Go Go.Ev
namespace Go.Proofs.Ytoddajoeiamidaa
theorem szK_bk (ks : List Str) : szK ks = sumL bkStr ks := rfl
mutual
theorem szN_bk : ∀ n : GNode, szN n ≤ bkNode n
  | ⟨_, _, v, keys, l⟩ => by
    have h1 := szNs_bk l
    have h2 := szV_bk v
    have h3 := szK_bk keys
    simp only [szN, bkNode, bk1, bkSl]; omega
theorem szNs_bk : ∀ l : List GNode, szNs l ≤ bkNodes l
  | [] => by simp [szNs]
  | x :: l => by have := szN_bk x; have := szNs_bk l; simp only [szNs, bkNodes]; omega
end
end Go.Proofs.Ytoddajoeiamidaa

/-
  What is asked of the program as a whole.
-/
set_option linter.unusedVariables false
open Go Go.Ev
open Go.ChangeShapes Go.WideShapes Go.ChangeAt Go.RowKit
namespace Go.Proofs.Ytoddajoeiamidaa
theorem mixed : Try.prog.follows .mixedOrders = true := by kernel_rfl
theorem names : (Try.prog.funcs.toList.all fun fn => !fn.body.isSome || !(fn.name == "runtime.NumGoroutine")) = true := by kernel_rfl
theorem laid : laidOutB Try.prog = true := by kernel_rfl
theorem pok : POk Try.prog := by
  refine ⟨mixed, fun f fn hf hb => ?_⟩
  have hm : fn ∈ Try.prog.funcs.toList := by
    have := Array.mem_of_getElem? hf
    simpa using this
  have := List.all_eq_true.1 names fn hm
  rw [hb] at this
  simpa using this
theorem xok : ExtOk Try.prog XT := fun f g h => by simp [XT] at h
theorem blOk {H : Type} : BlOk (H := H) Rows.uptoBulk Rows.uptoBulkAll := by
  refine ⟨fun l => ?_, fun s => ?_, ?_, fun es sp => ?_, fun ps => ?_, fun d r => ?_⟩
  · cases l <;> simp [Rows.uptoBulk]
  · simp [Rows.uptoBulk]
  · simp [Rows.uptoBulk]
  · simp only [Rows.uptoBulk]; omega
  · simp only [Rows.uptoBulk]; omega
  · simp [Rows.uptoBulkAll]
theorem own : ownKnob Try.prog.godebug = none := by kernel_rfl
end Go.Proofs.Ytoddajoeiamidaa

/-
  TreeChains: null goes up just where a chain of places that must be there leads down to a null. Conditions: none beside the row's own (bulk at most 1048576).
-/
set_option linter.unusedVariables false
open Go Go.Ev
open Go.ChangeShapes Go.WideShapes Go.ChangeAt Go.RowKit
namespace Go.Proofs.Ytoddajoeiamidaa
namespace treeChains
def fs : Ty := (.fcons (.ext 4) .fnil)
theorem lawF : ∀ x : fs.den RS, good RS fs x → bulkL RS fs x ≤ 1048576 → OL Try.prog MT XT 6 (encL RS fs x) [] = some (.bool true, []) := by
  rintro ⟨x0, _⟩ g b
  have b' : bkNode x0 ≤ 1048576 := b
  obtain ⟨g0, _⟩ := g
  have g0' : gdNode x0 := g0
  have e : encL RS fs (x0, ()) = [encNode x0] := rfl
  rw [e]
  change O 6 _ _ = _
  have h := seinelaw32_TreeChains_spec (seinelaw32_TreeChains_ok x0 (by have := szN_bk x0; omega))
  simpa only [tys, seinelaw32_TreeChainsE] using h
theorem contract (H : Type) (enc : TypeId × Value → H) (W : World) (base : Nat) (args : Array Value) (ds gs : List (DataW H)) (before : List MemPlace)
    (hval : ∀ (j : Nat) t v, Try.f6.params[j]? = some t → args[j]? = some v → Value.okWide Try.prog W .any base t v)
    (hW : DataW.Whole enc Try.prog Try.f6.params.toList Rows.treeChainsSpec.vars false W args.toList ds gs before) (hk : Rows.uptoSmall H (ds ++ gs) = true) :
    Calls Try.prog 6 args W fun e W' => ∃ v, e = .returned v ∧ Rows.treeChainsSpec.post enc Try.prog Try.f6 false true false false W args v W' := by
  have hg : gs = [] := by
    obtain ⟨p, q, hA, hV, _⟩ := hW
    exact (trodVars_none hV).1
  have hb : Rows.uptoBulkAll ds ≤ 1048576 := by
    have := of_decide_eq_true hk
    simpa [hg] using this
  have hlen : ds.length = 1 := by
    obtain ⟨p, q, hA0, hV, _⟩ := hW
    have hA : DataW.TrodAll enc Try.prog W 0 (fun _ => true) true Try.f6.params.toList args.toList ds p := hA0
    rw [Try.params6] at hA
    obtain ⟨v0, vs0, d0, ds0, p0, q0, h0, rfl, rfl, ht0, r0⟩ := trodAll_cons hA
    obtain ⟨rfl, rfl, rfl⟩ := trodAll_nil r0
    rfl
  refine contract_true pok xok laid blOk Try.func6 rfl (n := 9) (ρ := RS) (τ := TS) (fs := fs) (tb := 4) (by kernel_rfl) (by rw [show Try.f6.resultTypes = #[4] from rfl]) Try.underlying4 rfl (rok enc W blOk) ?_ hval hW hb lawF
  subst hg
  match ds, hlen with
  | [d0], _ => exact ⟨rfl, rfl, rfl⟩
set_option maxRecDepth 100000 in
theorem lifted (os : Os) (started : os.Started) (H : Type) (enc : TypeId × Value → H) (F : Stop.Interp) :
    ReturnsInHanded {} Try.checked os 6 .any ((Rows.OpenSpec.upto Rows.treeChainsSpec).pre6 enc Try.prog Try.f6 Rows.treeChainsUptoRow.domain false) (((Rows.OpenSpec.upto Rows.treeChainsSpec).at F).post enc Try.prog Try.f6 false true false false) := by
  refine returnsInHanded_of_cond (C := Try.checked) (s := Rows.OpenSpec.upto Rows.treeChainsSpec) (k := Rows.uptoSmall) rfl own started (by kernel_rfl) Try.func6
    (OpenSpec.witness (enc := enc) (C := Try.checked) (s := Rows.OpenSpec.upto Rows.treeChainsSpec) (k := Rows.uptoSmall) rfl false ⟨#[], #[.agg #[.int .i64 0, .bool false, .int .i64 0, .int .i64 0, .string ⟨#[]⟩, .slice none 0 0, .slice none 0 0, .slice none 0 0, .slice none 0 0]], []⟩ 8 (by kernel_rfl) (by kernel_rfl) (by kernel_rfl)
      (x := ([.agg [.lit (.int .i64 0), .lit (.bool false), .agg [.lit (.int .i64 0), .lit (.int .i64 0), .lit (.string []), .nil, .nil], .nil, .nil]], [], [])) (by kernel_rfl) rfl (by kernel_rfl)) ?_
  intro W base args ds gs before hval hW _ hk _
  exact contract H enc W base args ds gs before hval hW hk
theorem over : Rows.treeChainsUptoRow.holds Try.pinned (Rows.OpenSpec.upto Rows.treeChainsSpec) :=
  OpenClaim.holds_of_cond 6 Try.f6 rfl rfl rfl rfl rfl rfl rfl ⟨rfl, rfl, rfl, rfl, rfl⟩ rfl rfl rfl rfl rfl (by kernel_rfl) Try.func6 (by kernel_rfl)
    (of_decide_eq_true (by kernel_rfl)) (by unfold Func.isWrapper; first | (rw [if_pos (by decide +kernel)]; kernel_rfl) | (rw [if_neg (by decide +kernel)]; exact ⟨rfl, rfl⟩))
    (fun os started H enc _ F => lifted os started H enc F)
theorem proved : Rows.TreeChainsUptoSaid :=
  over
end treeChains
end Go.Proofs.Ytoddajoeiamidaa
