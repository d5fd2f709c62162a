/-
  ArgsFull: one argument for each parameter is enough, and known, and each once, if no two parameters have one name; without one that must be there it is not enough. Conditions: none beside the row's own (bulk at most 1048576).
-/
import Derived.Test.YteiccdhdfcbokaaGc
import Derived.Test.YteiccdhdfcbokaaEd
import Derived.KernelRfl
import Derived.Test.YteiccdhdfcbokaaGa
import Derived.Test.YteiccdhdfcbokaaRows
import Derived.WalkKit
import Derived.ProofKit
import Derived.OpenShut
import Derived.JoinedCond
set_option linter.unusedVariables false
set_option linter.unusedSimpArgs false
/-
  Names: the program's and the reference's are alike.
-/
set_option linter.unusedVariables false
set_option linter.unusedSimpArgs false
open Go Go.Ev
namespace Go.Proofs.Yteiccdhdfcbokaa

def letter (c : Int) : Bool := (decide (97 ≤ c) && decide (c ≤ 122)) || ((decide (65 ≤ c) && decide (c ≤ 90)) || c == 95)
def digit (c : Int) : Bool := decide (48 ≤ c) && decide (c ≤ 57)
theorem letters_Letter_ok (c : Int) : letters_Letter c = some (letter c) := by
  apply letters_Letter_run
  simp only [letters_Letter_B, letter, cnd_ite, ge_iff_le]
  cases decide (97 ≤ c) <;> cases decide (c ≤ 122) <;> cases decide (65 ≤ c) <;> cases decide (c ≤ 90) <;> simp
theorem letters_Digit_ok (c : Int) : letters_Digit c = some (digit c) := by
  apply letters_Digit_run
  simp only [letters_Digit_B, digit, cnd_ite, ge_iff_le]
  cases decide (48 ≤ c) <;> simp
theorem seineref1_start_ok (c : Int) : seineref1_start c = some (letter c) := by
  apply seineref1_start_run
  simp only [seineref1_start_B, letter, cnd_ite, ge_iff_le]
  cases decide (97 ≤ c) <;> cases decide (c ≤ 122) <;> cases decide (65 ≤ c) <;> cases decide (c ≤ 90) <;> simp
theorem seineref1_digit_ok (c : Int) : seineref1_digit c = some (digit c) := by
  apply seineref1_digit_run
  simp only [seineref1_digit_B, digit, cnd_ite, ge_iff_le]
  cases decide (48 ≤ c) <;> simp

/-- All of these may stand behind a name's first sign. -/
def inName (c : UInt8) : Bool := letter c.toNat || digit c.toNat
def isName : Str → Bool
  | [] => false
  | c :: s => letter c.toNat && s.all inName
theorem letters_Name_ok (s : Str) (h : s.length < 4611686018427387904) : letters_Name s = some (isName s) := by
  apply letters_Name_run
  have key := tloop_list (b := letters_Name_l1T s) s (fun k (_ : Unit) => (k : Int)) (fun r _ => if r.all (fun c => inName c) then Sum.inl () else Sum.inr ()) (fun k _ => 1 ≤ k)
    (by
      intro a _
      simp [letters_Name_l1T])
    (by
      intro k x r a hk hx hd hI
      have e1 : (decide ((k : Int) < (List.length s : Int))) = true := by simp; omega
      have e2 : ((k : Int) == 0) = false := by simp; omega
      have e3 : IntKind.wrap .i64 ((k : Int) + 1) = ((k + 1 : Nat) : Int) := wadd (by omega)
      simp only [letters_Name_l1T, e1, cnd_t, nthI_nat, hx, bnd_s, letters_Letter_ok, letters_Digit_ok, e2, cnd_f, e3]
      cases h1 : letter x.toNat <;> cases h2 : digit x.toNat <;> simp [inName, h1, h2])
  unfold letters_Name_B
  cases s with
  | nil =>
    rw [tloop_exit (r := .inl ()) (by simp [letters_Name_l1T])]
    simp [isName]
  | cons c s =>
    have e1 : (decide ((0 : Int) < (List.length (c :: s) : Int))) = true := by simp
    cases h1 : letter c.toNat with
    | false =>
      rw [tloop_exit (r := .inr ()) (by
        have : nthI (c :: s) 0 = some c := rfl
        simp only [letters_Name_l1T, e1, cnd_t, this, bnd_s, letters_Letter_ok, h1]; rfl)]
      simp [isName, h1]
    | true =>
      rw [tloop_next (s' := ((1 : Nat) : Int)) (by
        have : nthI (c :: s) 0 = some c := rfl
        simp only [letters_Name_l1T, e1, cnd_t, this, bnd_s, letters_Letter_ok, h1]; rfl)]
      rw [key 1 () (by simp) (by omega)]
      simp only [List.drop_succ_cons, List.drop_zero, bnd_s, isName, h1, Bool.true_and]
      cases h2 : s.all inName <;> simp
theorem seineref1_Name_ok (s : Str) (h : s.length < 4611686018427387904) : seineref1_Name s = some (isName s) := by
  apply seineref1_Name_run
  have key := tloop_list (b := seineref1_Name_l1T s) s (fun k (_ : Unit) => (k : Int)) (fun r _ => if r.all (fun c => inName c) then Sum.inl () else Sum.inr ()) (fun k _ => 1 ≤ k)
    (by
      intro a _
      simp [seineref1_Name_l1T])
    (by
      intro k x r a hk hx hd hI
      have e1 : (decide ((k : Int) < (List.length s : Int))) = true := by simp; omega
      have e3 : IntKind.wrap .i64 ((k : Int) + 1) = ((k + 1 : Nat) : Int) := wadd (by omega)
      simp only [seineref1_Name_l1T, e1, cnd_t, nthI_nat, hx, bnd_s, seineref1_start_ok, seineref1_digit_ok, cnd_f, e3]
      cases h1 : letter x.toNat <;> cases h2 : digit x.toNat <;> simp [inName, h1, h2])
  unfold seineref1_Name_B
  cases s with
  | nil => rfl
  | cons c s =>
    have : nthI (c :: s) 0 = some c := rfl
    have e0 : ((c :: s) == ([] : Str)) = false := rfl
    simp only [e0, cnd_f, this, bnd_s, seineref1_start_ok]
    cases h1 : letter c.toNat with
    | false => simp [isName, h1]
    | true =>
      have := key 1 () (by simp) (by omega)
      rw [show ((1 : Nat) : Int) = 1 from rfl] at this
      simp only [Bool.not_true, cnd_f, this, List.drop_succ_cons, List.drop_zero, bnd_s, isName, h1, Bool.true_and]
      cases h2 : s.all inName <;> simp

end Go.Proofs.Yteiccdhdfcbokaa

/-
  Sizes of values.
-/
set_option linter.unusedVariables false
set_option linter.unusedSimpArgs false
open Go Go.Ev
namespace Go.Proofs.Yteiccdhdfcbokaa

/-! sizes -/
mutual
def szV : GValue → Nat
  | ⟨_, _, s, l, m⟩ => 1 + s.length + szVs l + szMs m
def szVs : List GValue → Nat
  | [] => 0
  | x :: l => szV x + szVs l
def szM : GMember → Nat
  | ⟨n, v⟩ => n.length + szV v
def szMs : List GMember → Nat
  | [] => 0
  | x :: l => szM x + szMs l
end
theorem szV_eq (v : GValue) : szV v = 1 + v.s.length + szVs v.l + szMs v.m := by cases v; simp only [szV]
theorem szM_eq (x : GMember) : szM x = x.name.length + szV x.v := by cases x; simp only [szM]
theorem szVs_mem {x : GValue} : ∀ {l : List GValue}, x ∈ l → szV x ≤ szVs l
  | a :: l, h => by
    simp only [szVs]
    rcases List.mem_cons.1 h with rfl | h
    · omega
    · have := szVs_mem h; omega
theorem szMs_mem {x : GMember} : ∀ {l : List GMember}, x ∈ l → szM x ≤ szMs l
  | a :: l, h => by
    simp only [szMs]
    rcases List.mem_cons.1 h with rfl | h
    · omega
    · have := szMs_mem h; omega
theorem szVs_len : ∀ (l : List GValue), l.length ≤ szVs l
  | [] => by simp [szVs]
  | a :: l => by have := szVs_len l; have := szV_eq a; simp only [szVs, List.length_cons]; omega
theorem szMs_len : ∀ (l : List GMember), l.length ≤ szMs l
  | [] => by simp [szMs]
  | a :: l => by have := szMs_len l; have := szM_eq a; have := szV_eq a.v; simp only [szMs, List.length_cons]; omega
theorem szVs_app : ∀ (l m : List GValue), szVs (l ++ m) = szVs l + szVs m
  | [], m => by simp [szVs]
  | a :: l, m => by simp only [List.cons_append, szVs, szVs_app l m]; omega
theorem seinekeep_Size_ok' : ∀ (n : Nat), n < 4611686018427387904 → ∀ v : GValue, szV v ≤ n → seinekeep_Size v = some (szV v : Int) := by
  intro n
  induction n with
  | zero => intro _ v h; have := szV_eq v; omega
  | succ n ih =>
    intro hn v h
    have hv := szV_eq v
    have hl := szVs_len v.l
    have hm := szMs_len v.m
    apply seinekeep_Size_run
    unfold seinekeep_Size_B
    have k1 := tloop_list (b := seinekeep_Size_l1T v) v.l (fun k (a : Nat) => ((a : Int), (k : Int))) (fun r a => ((a + szVs r : Nat) : Int)) (fun k a => a + szVs (v.l.drop k) ≤ 1 + v.s.length + szVs v.l)
      (by
        intro a _
        simp [seinekeep_Size_l1T, szVs])
      (by
        intro k x r a hk hx hd hI
        have hxm : x ∈ v.l := List.mem_of_getElem? hx
        have h1 := szVs_mem hxm
        have h2 := ih (by omega) x (by omega)
        rw [hd] at hI
        simp only [szVs] at hI
        have e1 : (decide ((k : Int) < (List.length v.l : Int))) = true := by simp; omega
        have e3 : IntKind.wrap .i64 ((k : Int) + 1) = ((k + 1 : Nat) : Int) := wadd (by omega)
        have e4 : IntKind.wrap .i64 ((a : Int) + (szV x : Int)) = ((a + szV x : Nat) : Int) := by rw [wi (by omega)]; omega
        refine .inr ⟨a + szV x, ?_, ?_, ?_⟩
        · simp only [seinekeep_Size_l1T, e1, cnd_t, nthI_nat, hx, bnd_s, h2, e3, e4]
        · have : v.l.drop (k + 1) = r := by rw [← List.tail_drop, hd]; rfl
          rw [this]; omega
        · simp only [szVs, Nat.add_assoc])
    have k2 := tloop_list (b := seinekeep_Size_l2T v) v.m (fun k (a : Nat) => ((a : Int), (k : Int))) (fun r a => ((a + szMs r : Nat) : Int)) (fun k a => a + szMs (v.m.drop k) ≤ 1 + v.s.length + szVs v.l + szMs v.m)
      (by
        intro a _
        simp [seinekeep_Size_l2T, szMs])
      (by
        intro k x r a hk hx hd hI
        have hxm : x ∈ v.m := List.mem_of_getElem? hx
        have h1 := szMs_mem hxm
        have h1' := szM_eq x
        have h2 := ih (by omega) x.v (by omega)
        rw [hd] at hI
        simp only [szMs] at hI
        have e1 : (decide ((k : Int) < (List.length v.m : Int))) = true := by simp; omega
        have e3 : IntKind.wrap .i64 ((k : Int) + 1) = ((k + 1 : Nat) : Int) := wadd (by omega)
        have e5 : IntKind.wrap .i64 ((a : Int) + (x.name.length : Int)) = ((a + x.name.length : Nat) : Int) := by rw [wi (by omega)]; omega
        have e4 : IntKind.wrap .i64 (((a + x.name.length : Nat) : Int) + (szV x.v : Int)) = ((a + szM x : Nat) : Int) := by rw [wi (by omega)]; omega
        refine .inr ⟨a + szM x, ?_, ?_, ?_⟩
        · simp only [seinekeep_Size_l2T, e1, cnd_t, nthI_nat, hx, bnd_s, h2, e3, e4, e5]
        · have : v.m.drop (k + 1) = r := by rw [← List.tail_drop, hd]; rfl
          rw [this]; omega
        · simp only [szMs, Nat.add_assoc])
    have e0 : IntKind.wrap .i64 (1 + (v.s.length : Int)) = ((1 + v.s.length : Nat) : Int) := by rw [wi (by omega)]; omega
    rw [e0, show (0 : Int) = ((0 : Nat) : Int) from rfl, k1 0 (1 + v.s.length) (by omega) (by simp)]
    simp only [List.drop_zero, bnd_s]
    rw [k2 0 (1 + v.s.length + szVs v.l) (by omega) (by simp)]
    simp only [List.drop_zero, bnd_s, hv]
theorem seinekeep_Size_ok (v : GValue) (h : szV v < 4611686018427387904) : seinekeep_Size v = some (szV v : Int) := seinekeep_Size_ok' _ h v (Nat.le_refl _)
mutual
theorem szV_bk : ∀ v : GValue, szV v ≤ bkValue v
  | ⟨_, _, s, l, m⟩ => by
    have h1 := szVs_bk l
    have h2 := szMs_bk m
    simp only [szV, bkValue, bk1, bkStr]; omega
theorem szVs_bk : ∀ l : List GValue, szVs l ≤ bkValues l
  | [] => by simp [szVs]
  | x :: l => by have := szV_bk x; have := szVs_bk l; simp only [szVs, bkValues]; omega
theorem szM_bk : ∀ x : GMember, szM x ≤ bkMember x
  | ⟨n, v⟩ => by have := szV_bk v; simp only [szM, bkMember, bkStr]; omega
theorem szMs_bk : ∀ l : List GMember, szMs l ≤ bkMembers l
  | [] => by simp [szMs]
  | x :: l => by have := szM_bk x; have := szMs_bk l; simp only [szMs, bkMembers]; omega
end
end Go.Proofs.Yteiccdhdfcbokaa

/-
  A value is the same as itself.
-/
set_option linter.unusedVariables false
set_option linter.unusedSimpArgs false
open Go Go.Ev
namespace Go.Proofs.Yteiccdhdfcbokaa

/-! a value is the same as itself -/
theorem members_of (m : List GMember) (hm : m.length < 1073741824) (h : ∀ x ∈ m, seineref1_Same x.v x.v = some true) : seineref1_Members m m = some true := by
  apply seineref1_Members_run
  unfold seineref1_Members_B
  have key := tloop_list (b := seineref1_Members_l1T m m) m (fun k (_ : Unit) => (k : Int)) (fun r _ => Sum.inl ()) (fun _ _ => True)
    (by intro a _; simp [seineref1_Members_l1T])
    (by
      intro k x r a hk hx hd _
      have e1 : (decide ((k : Int) < (List.length m : Int))) = true := by simp; omega
      have e3 : IntKind.wrap .i64 ((k : Int) + 1) = ((k + 1 : Nat) : Int) := wadd (by omega)
      refine .inr ⟨(), ?_, trivial, rfl⟩
      simp only [seineref1_Members_l1T, e1, cnd_t, nthI_nat, hx, bnd_s, beq_self_eq_true, Bool.not_true, cnd_f, h x (List.mem_of_getElem? hx), e3])
  have := key 0 () (by omega) trivial
  rw [show (0 : Int) = ((0 : Nat) : Int) from rfl, this]
  simp
theorem seineref1_Same_self' : ∀ (n : Nat), n < 1073741824 → ∀ v : GValue, szV v ≤ n → seineref1_Same v v = some true := by
  intro n
  induction n with
  | zero => intro _ v h; have := szV_eq v; omega
  | succ n ih =>
    intro hn v h
    have hv := szV_eq v
    have hl := szVs_len v.l
    have hm := szMs_len v.m
    apply seineref1_Same_run
    unfold seineref1_Same_B
    have key := tloop_list (b := seineref1_Same_l1T v v) v.l (fun k (_ : Unit) => (k : Int)) (fun r _ => Sum.inl ()) (fun _ _ => True)
      (by intro a _; simp [seineref1_Same_l1T])
      (by
        intro k x r a hk hx hd _
        have e1 : (decide ((k : Int) < (List.length v.l : Int))) = true := by simp; omega
        have e3 : IntKind.wrap .i64 ((k : Int) + 1) = ((k + 1 : Nat) : Int) := wadd (by omega)
        have hs := ih (by omega) x (by have := szVs_mem (List.mem_of_getElem? hx); omega)
        refine .inr ⟨(), ?_, trivial, rfl⟩
        simp only [seineref1_Same_l1T, e1, cnd_t, nthI_nat, hx, bnd_s, hs, Bool.not_true, cnd_f, e3])
    have hk := key 0 () (by omega) trivial
    have hmm := members_of v.m (by omega) fun x hx => ih (by omega) x.v (by have := szMs_mem hx; have := szM_eq x; omega)
    rw [show (0 : Int) = ((0 : Nat) : Int) from rfl, hk]
    simp [hmm]
theorem seineref1_Same_self (v : GValue) (h : szV v < 1073741824) : seineref1_Same v v = some true := seineref1_Same_self' _ h v (Nat.le_refl _)

end Go.Proofs.Yteiccdhdfcbokaa

/-
  Layer 4, wrap: the typed functions as plain ones.
-/
set_option linter.unusedVariables false
set_option linter.unusedSimpArgs false
open Go Go.Ev
namespace Go.Proofs.Yteiccdhdfcbokaa

/-- Numbers as the model holds them, a name that is not endless. -/
def TOk (t : GType) : Prop := (-9223372036854775808 ≤ t.lists ∧ t.lists ≤ 9223372036854775807) ∧ (-9223372036854775808 ≤ t.musts ∧ t.musts ≤ 9223372036854775807) ∧ t.name.length < 4611686018427387904
def rightT (t : GType) : Bool := isName t.name && (decide (0 ≤ t.lists) && (decide (t.lists ≤ 4) && (decide (0 ≤ t.musts) && decide (t.musts < 2 ^ (t.lists.toNat + 1)))))
theorem rightT_iff (t : GType) : rightT t = true ↔ isName t.name = true ∧ 0 ≤ t.lists ∧ t.lists ≤ 4 ∧ 0 ≤ t.musts ∧ t.musts < 2 ^ (t.lists.toNat + 1) := by
  simp [rightT]
theorem wrap_Right_ok (t : GType) (h : TOk t) : wrap_Right t = some (rightT t) := by
  obtain ⟨⟨h1, h2⟩, ⟨h3, h4⟩, h5⟩ := h
  apply wrap_Right_run
  simp only [wrap_Right_B, letters_Name_ok _ h5, bnd_s, ge_iff_le]
  unfold rightT
  cases isName t.name
  · rfl
  · by_cases hl : 0 ≤ t.lists
    · by_cases hl4 : t.lists ≤ 4
      · by_cases hm : 0 ≤ t.musts
        · have e1 : IntKind.wrap .i64 (t.lists + 1) = t.lists + 1 := wi (by omega)
          have e2 : (t.lists + 1).toNat = t.lists.toNat + 1 := by omega
          have e3 : min (t.lists.toNat + 1) 64 = t.lists.toNat + 1 := by omega
          simp only [hl, hl4, hm, decide_true, cnd_t, e1, tshr, if_neg (show ¬ (t.lists + 1 < 0) by omega), bnd_s, IntKind.bits, e2, e3, Bool.true_and]
          congr 1
          rw [Bool.eq_iff_iff]
          simp only [beq_iff_eq, decide_eq_true_eq]
          have hp : (0 : Int) < 2 ^ (t.lists.toNat + 1) := Int.pow_pos (by decide)
          rw [Int.fdiv_eq_ediv_of_nonneg _ (Int.le_of_lt hp)]
          constructor
          · intro h; 
            have := Int.lt_ediv_add_one_mul_self t.musts hp
            rw [h] at this; simpa using this
          · intro h; exact Int.ediv_eq_zero_of_lt hm h
        · simp [hl, hl4, hm]
      · simp [hl, hl4]
    · simp [hl]
theorem seineref1_RightType_ok (t : GType) (h : TOk t) : seineref1_RightType t = some (rightT t) := by
  obtain ⟨⟨h1, h2⟩, ⟨h3, h4⟩, h5⟩ := h
  apply seineref1_RightType_run
  simp only [seineref1_RightType_B, seineref1_Name_ok _ h5, bnd_s, ge_iff_le]
  unfold rightT
  cases isName t.name
  · rfl
  · by_cases hl : 0 ≤ t.lists
    · by_cases hl4 : t.lists ≤ 4
      · by_cases hm : 0 ≤ t.musts
        · have e1 : IntKind.wrap .u64 t.lists = t.lists := by rw [wu]; omega
          have e3 : min t.lists.toNat 64 = t.lists.toNat := by omega
          have hc : t.lists.toNat = 0 ∨ t.lists.toNat = 1 ∨ t.lists.toNat = 2 ∨ t.lists.toNat = 3 ∨ t.lists.toNat = 4 := by omega
          have e4 : IntKind.wrap .i64 (2 * 2 ^ t.lists.toNat) = 2 ^ (t.lists.toNat + 1) := by
            rcases hc with h | h | h | h | h <;> rw [h] <;> rfl
          simp only [hl, hl4, hm, decide_true, cnd_t, e1, tshl, if_neg (show ¬ (t.lists < 0) by omega), bnd_s, IntKind.bits, e3, e4, Bool.true_and]
        · simp [hl, hl4, hm]
      · simp [hl, hl4]
    · simp [hl]
def bit0 (n : Int) : Bool := bits .and .i64 n 1 == 1
theorem wrap_bit_ok (t : GType) : wrap_bit t 0 = some (bit0 t.musts) := by
  apply wrap_bit_run
  have : t.musts.fdiv (2 ^ min (Int.toNat 0) 64) = t.musts := by
    show t.musts.fdiv 1 = t.musts
    exact Int.fdiv_one _
  simp only [wrap_bit_B, tshr, if_neg (show ¬ ((0 : Int) < 0) by omega), bnd_s, IntKind.bits, this, bit0]
def isT (t : GType) : Bool := rightT t && bit0 t.musts
theorem wrap_Is_ok (t : GType) (h : TOk t) : wrap_Is t = some (isT t) := by
  apply wrap_Is_run
  simp only [wrap_Is_B, wrap_Right_ok t h, wrap_bit_ok, bnd_s, isT]
  cases rightT t <;> rfl
theorem seineref1_Is_ok (t : GType) (h : TOk t) : seineref1_Is t = some (isT t) := by
  apply seineref1_Is_run
  simp only [seineref1_Is_B, seineref1_RightType_ok t h, bnd_s, isT, bit0]
  cases rightT t <;> rfl
def bareT (t : GType) : GType := bif rightT t then ⟨t.name, t.lists, bits .andNot .i64 t.musts 1⟩ else t
def mustT (t : GType) : GType := bif rightT t then ⟨t.name, t.lists, bits .or .i64 t.musts 1⟩ else t
def subT (a b : GType) : Bool := rightT a && (rightT b && (a.name == b.name && (a.lists == b.lists && bits .andNot .i64 b.musts a.musts == 0)))
theorem bits_range (op : BinOp) (a b : Int) : -9223372036854775808 ≤ bits op .i64 a b ∧ bits op .i64 a b ≤ 9223372036854775807 := by
  have key : ∀ n : Int, -9223372036854775808 ≤ IntKind.wrap .i64 n ∧ IntKind.wrap .i64 n ≤ 9223372036854775807 := by
    intro n; rw [IntKind.wrap_i64]; omega
  unfold bits
  cases op <;> exact key _
theorem TOk.bare {t : GType} (h : TOk t) : TOk (bareT t) := by
  unfold bareT
  cases rightT t
  · exact h
  · show TOk ⟨t.name, t.lists, bits .andNot .i64 t.musts 1⟩
    exact ⟨h.1, bits_range .andNot t.musts 1, h.2.2⟩
theorem TOk.must {t : GType} (h : TOk t) : TOk (mustT t) := by
  unfold mustT
  cases rightT t
  · exact h
  · show TOk ⟨t.name, t.lists, bits .or .i64 t.musts 1⟩
    exact ⟨h.1, bits_range .or t.musts 1, h.2.2⟩

theorem small_bits : ∀ (l : Fin 5) (m : Fin 32), m.val < 2 ^ (l.val + 1) →
    (0 ≤ bits .or .i64 (m.val : Int) 1 ∧ bits .or .i64 (m.val : Int) 1 < 2 ^ (l.val + 1)) ∧ (0 ≤ bits .andNot .i64 (m.val : Int) 1 ∧ bits .andNot .i64 (m.val : Int) 1 < 2 ^ (l.val + 1)) ∧
    bit0 (bits .or .i64 (m.val : Int) 1) = true ∧ bits .andNot .i64 (bits .andNot .i64 (m.val : Int) 1) (bits .or .i64 (m.val : Int) 1) = 0 ∧
    bits .andNot .i64 (m.val : Int) (m.val : Int) = 0 ∧ bits .andNot .i64 (bits .or .i64 (m.val : Int) 1) (bits .or .i64 (m.val : Int) 1) = 0 := by decide +kernel
theorem right_bits {t : GType} (h : rightT t = true) : rightT ⟨t.name, t.lists, bits .or .i64 t.musts 1⟩ = true ∧ rightT ⟨t.name, t.lists, bits .andNot .i64 t.musts 1⟩ = true ∧ bit0 (bits .or .i64 t.musts 1) = true ∧
    bits .andNot .i64 (bits .andNot .i64 t.musts 1) (bits .or .i64 t.musts 1) = 0 ∧ bits .andNot .i64 t.musts t.musts = 0 ∧ bits .andNot .i64 (bits .or .i64 t.musts 1) (bits .or .i64 t.musts 1) = 0 := by
  obtain ⟨h1, h2, h3, h4, h5⟩ := (rightT_iff t).1 h
  obtain ⟨l, hl⟩ := Int.eq_ofNat_of_zero_le h2
  obtain ⟨m, hm⟩ := Int.eq_ofNat_of_zero_le h4
  rw [hl] at h3 h5
  rw [hm] at h5
  simp only [Int.toNat_natCast] at h5
  have h5' : m < 2 ^ (l + 1) := by exact_mod_cast h5
  have hl5 : l < 5 := by omega
  have hm5 : m < 32 := Nat.lt_of_lt_of_le h5' (by
    have : 2 ^ (l + 1) ≤ 2 ^ 5 := Nat.pow_le_pow_right (by decide) (by omega)
    exact this)
  obtain ⟨k1, k2, k3, k4, k5, k6⟩ := small_bits ⟨l, hl5⟩ ⟨m, hm5⟩ h5'
  simp only at k1 k2 k3 k4 k5 k6
  simp only [rightT_iff, hl, hm, Int.toNat_natCast]
  exact ⟨⟨h1, by omega, by omega, k1⟩, ⟨h1, by omega, by omega, k2⟩, k3, k4, k5, k6⟩
end Go.Proofs.Yteiccdhdfcbokaa

/-
  Lists of texts and of numbers.
-/
set_option linter.unusedVariables false
set_option linter.unusedSimpArgs false
open Go Go.Ev
namespace Go.Proofs.Yteiccdhdfcbokaa

/-! lists of texts, of numbers -/
theorem find_some {α : Type} (l : List α) (p : α → Bool) {β : Type} (g : α → β) : l.findSome? (fun x => if p x then some (g x) else none) = (l.find? p).map g := by
  induction l with
  | nil => rfl
  | cons a l ih =>
    rw [List.findSome?_cons, List.find?_cons]
    cases p a with
    | true => rfl
    | false => exact ih
def addD (l : List Str) (n : Str) : List Str := bif l.contains n then l else l ++ [n]
theorem addD_len (l : List Str) (n : Str) : (addD l n).length ≤ l.length + 1 := by
  unfold addD; cases l.contains n <;> simp
theorem addD_nodup {l : List Str} {n : Str} (h : l.Nodup) : (addD l n).Nodup := by
  unfold addD
  cases hc : l.contains n
  · simp only [cond_false]
    have hm : n ∉ l := by simpa using hc
    exact List.nodup_append.2 ⟨h, by simp, fun a ha b hb => by simp at hb; subst hb; exact fun e => hm (e ▸ ha)⟩
  · exact h
theorem addD_mem {l : List Str} {n x : Str} (h : x ∈ addD l n) : x ∈ l ∨ x = n := by
  unfold addD at h
  cases hc : l.contains n
  · rw [hc] at h; simpa using h
  · rw [hc] at h; exact .inl h
end Go.Proofs.Yteiccdhdfcbokaa

/-
  Layer 9, defs: the typed functions of the program and of the reference as plain ones.
-/
set_option linter.unusedVariables false
set_option linter.unusedSimpArgs false
open Go Go.Ev
namespace Go.Proofs.Yteiccdhdfcbokaa

/-! definitions -/
abbrev zDef : GDef := ⟨0, [], [], [], [], []⟩
def scalarN (n : Str) : Bool := n == [73, 110, 116] || (n == [83, 116, 114, 105, 110, 103] || (n == [66, 111, 111, 108, 101, 97, 110] || n == [73, 68]))
def findD (s : GSchema) (n : Str) : GDef × Bool := bif scalarN n then (⟨0, n, [], [], [], []⟩, true) else match s.defs.find? (fun d => d.name == n) with | some d => (d, true) | none => (zDef, false)
def kindD (s : GSchema) (n : Str) (ks : List Int) : Bool := (findD s n).2 && ks.contains (findD s n).1.kind
theorem kindD_two (s : GSchema) (n : Str) (a b : Int) : kindD s n [a, b, b] = kindD s n [a, b] := by
  simp only [kindD, List.contains_cons, List.contains_nil, Bool.or_false, Bool.or_self]
theorem kindD_one (s : GSchema) (n : Str) (a : Int) : kindD s n [a, a, a] = kindD s n [a] := by
  simp only [kindD, List.contains_cons, List.contains_nil, Bool.or_false, Bool.or_self]
/-! what is possible -/
def possD (s : GSchema) (n : Str) : List Str :=
  bif !(findD s n).2 then [] else bif (findD s n).1.kind == 1 then [n] else
  bif (findD s n).1.kind == 2 then s.defs.foldl (fun l x => bif x.kind == 1 && x.faces.contains n then addD l x.name else l) [] else
  bif (findD s n).1.kind == 3 then (findD s n).1.parts.foldl (fun l p => bif kindD s p [1] then addD l p else l) [] else []
/-- Short enough. -/
structure SOk (s : GSchema) : Prop where
  bk : bkSchema s < 1073741824
theorem bkDef_pos (d : GDef) : 1 ≤ bkDef d := by rw [bkDef_eq]; omega
theorem bkFieldDef_pos (d : GFieldDef) : 1 ≤ bkFieldDef d := by rw [bkFieldDef_eq]; omega
theorem bkParam_pos (d : GParam) : 1 ≤ bkParam d := by rw [bkParam_eq]; omega
theorem bkDir_pos (d : GDir) : 1 ≤ bkDir d := by rw [bkDir_eq]; omega
theorem bkMember_pos (d : GMember) : 1 ≤ bkMember d := by rw [bkMember_eq]; omega
theorem SOk.defs {s : GSchema} (h : SOk s) : s.defs.length < 1073741824 := by
  have h1 := h.bk; rw [bkSchema_eq] at h1
  have h2 := sl_len bkDef_pos s.defs
  omega
theorem SOk.def_bk {s : GSchema} (h : SOk s) {d : GDef} (hd : d ∈ s.defs) : bkDef d < 1073741824 := by
  have h1 := h.bk; rw [bkSchema_eq] at h1
  have h2 := sl_mem (f := bkDef) hd
  omega
theorem SOk.faces {s : GSchema} (h : SOk s) (d : GDef) (hd : d ∈ s.defs) : d.faces.length < 1073741824 := by
  have h1 := h.def_bk hd; rw [bkDef_eq] at h1
  have h2 := sl_len bkStr_pos d.faces
  omega
theorem SOk.parts {s : GSchema} (h : SOk s) (d : GDef) (hd : d ∈ s.defs) : d.parts.length < 1073741824 := by
  have h1 := h.def_bk hd; rw [bkDef_eq] at h1
  have h2 := sl_len bkStr_pos d.parts
  omega
theorem SOk.fields {s : GSchema} (h : SOk s) (d : GDef) (hd : d ∈ s.defs) : d.fields.length < 1073741824 := by
  have h1 := h.def_bk hd; rw [bkDef_eq] at h1
  have h2 := sl_len bkFieldDef_pos d.fields
  omega
theorem SOk.sm {s : GSchema} (h : SOk s) : Sm s.defs := by have := h.defs; show s.defs.length < _; omega
theorem findD_mem (s : GSchema) (n : Str) : (findD s n).1 ∈ s.defs ∨ ((findD s n).1.faces = [] ∧ (findD s n).1.fields = [] ∧ (findD s n).1.parts = [] ∧ (findD s n).1.params = []) := by
  unfold findD
  cases scalarN n
  · simp only [cond_false]
    cases h : s.defs.find? (fun d => d.name == n) with
    | none => exact .inr ⟨rfl, rfl, rfl, rfl⟩
    | some d => exact .inl (List.mem_of_find?_eq_some h)
  · exact .inr ⟨rfl, rfl, rfl, rfl⟩
theorem SOk.partsF {s : GSchema} (h : SOk s) (n : Str) : (findD s n).1.parts.length < 1073741824 := by
  rcases findD_mem s n with hm | ⟨_, _, hp, _⟩
  · exact h.parts _ hm
  · rw [hp]; decide
theorem SOk.fieldsF {s : GSchema} (h : SOk s) (n : Str) : (findD s n).1.fields.length < 1073741824 := by
  rcases findD_mem s n with hm | ⟨_, hp, _, _⟩
  · exact h.fields _ hm
  · rw [hp]; decide
end Go.Proofs.Yteiccdhdfcbokaa

/-
  Layer 9, defs: fields, meeting; copies and likenesses of schemas.
-/
set_option linter.unusedVariables false
set_option linter.unusedSimpArgs false
open Go Go.Ev
namespace Go.Proofs.Yteiccdhdfcbokaa

abbrev zF : GFieldDef := ⟨[], [], ⟨[], 0, 0⟩, []⟩
abbrev tnS : Str := [95, 95, 116, 121, 112, 101, 110, 97, 109, 101]
abbrev tnF : GFieldDef := ⟨tnS, [], ⟨[83, 116, 114, 105, 110, 103], 0, 1⟩, []⟩
def fieldD (s : GSchema) (typ name : Str) : GFieldDef × Bool :=
  bif name == tnS && kindD s typ [1, 2, 3] then (tnF, true) else bif (findD s typ).1.kind == 1 || (findD s typ).1.kind == 2 then (match (findD s typ).1.fields.find? (fun f => f.name == name) with | some f => (f, true) | none => (zF, false)) else (zF, false)
theorem findD_none {s : GSchema} {n : Str} (h : (findD s n).2 = false) : (findD s n).1 = zDef := by
  revert h
  unfold findD
  cases scalarN n
  · simp only [cond_false]
    cases hf : s.defs.find? (fun d => d.name == n) with
    | none => intro _; rfl
    | some d => intro h; simp at h
  · intro h; simp at h
theorem fieldEta (f : GFieldDef) : (⟨f.name, f.params, ⟨f.t.name, f.t.lists, f.t.musts⟩, f.dirs⟩ : GFieldDef) = f := rfl
/-! meeting -/
theorem foldl_add_len {α : Type} (c : α → Bool) (f : α → Str) : ∀ (l : List α) (a : List Str), (l.foldl (fun l x => bif c x then addD l (f x) else l) a).length ≤ a.length + l.length
  | [], a => by simp
  | x :: l, a => by
    have := foldl_add_len c f l (bif c x then addD a (f x) else a)
    have h2 := addD_len a (f x)
    rw [List.foldl_cons, List.length_cons]
    cases hc : c x <;> rw [hc] at this <;> simp only [cond_true, cond_false] at this ⊢ <;> omega
theorem possD_len (s : GSchema) (n : Str) (h : SOk s) : (possD s n).length < 1073741824 := by
  have h1 := h.defs
  have h2 := h.partsF n
  have h3 := foldl_add_len (fun x : GDef => x.kind == 1 && x.faces.contains n) (fun x => x.name) s.defs []
  have h4 := foldl_add_len (fun p : Str => kindD s p [1]) (fun p => p) (findD s n).1.parts []
  simp only [List.length_nil, Nat.zero_add] at h3 h4
  unfold possD
  cases (findD s n).2 <;> cases (findD s n).1.kind == 1 <;> cases (findD s n).1.kind == 2 <;> cases (findD s n).1.kind == 3 <;> simp only [Bool.not_true, Bool.not_false, cond_true, cond_false, List.length_nil, List.length_singleton] <;> omega
def meetsD (s : GSchema) (a b : Str) : Bool := (possD s a).any fun x => (possD s b).contains x
theorem meetsD_comm (s : GSchema) (a b : Str) : meetsD s a b = meetsD s b a := by
  unfold meetsD
  rw [Bool.eq_iff_iff]
  simp only [List.any_eq_true, List.contains_iff_mem]
  constructor <;> rintro ⟨x, h1, h2⟩ <;> exact ⟨x, h2, h1⟩
theorem meetsD_self (s : GSchema) (a : Str) : meetsD s a a = decide (((possD s a).length : Int) > 0) := by
  unfold meetsD
  cases h : possD s a with
  | nil => rfl
  | cons x l => simp
end Go.Proofs.Yteiccdhdfcbokaa

/-
  Copies are what they are copies of; what is like is like itself; how light a schema is, is told.
-/
set_option linter.unusedVariables false
set_option linter.unusedSimpArgs false
open Go Go.Ev
namespace Go.Proofs.Yteiccdhdfcbokaa

/-! copies -/
theorem tapp_nil {α : Type} (l : List α) (h : l.length < 1073741824) : tapp ([] : List α) l = some l := by
  rw [tapp_ok (by simp [lim_val]; omega)]; rfl
theorem members_keep (m : List GMember) (hm : m.length < 1073741824) (h : ∀ x ∈ m, seinekeep_Value x.v = some x.v) : seinekeep_Members m = some m := by
  apply seinekeep_Members_run
  unfold seinekeep_Members_B
  rw [loop_copy (b := seinekeep_Members_l1T m) m (fun k a => (a, (k : Int))) hm (by intro a; simp [seinekeep_Members_l1T]) (by
    intro k x a hx h1 h2 h3 h4
    simp only [seinekeep_Members_l1T, h1, cnd_t, h2, bnd_s, h3, h4, h x hx]
    cases x; rfl) (s := ([], 0)) rfl]
  rfl
theorem seinekeep_Value_ok' : ∀ (n : Nat), n < 1073741824 → ∀ v : GValue, szV v ≤ n → seinekeep_Value v = some v := by
  intro n
  induction n with
  | zero => intro _ v h; have := szV_eq v; omega
  | succ n ih =>
    intro hn v h
    have hv := szV_eq v
    have hl := szVs_len v.l
    have hm := szMs_len v.m
    apply seinekeep_Value_run
    unfold seinekeep_Value_B
    rw [loop_copy (b := seinekeep_Value_l1T v) v.l (fun k a => (a, (k : Int))) (by omega) (by intro a; simp [seinekeep_Value_l1T]) (by
      intro k x a hx h1 h2 h3 h4
      simp only [seinekeep_Value_l1T, h1, cnd_t, h2, bnd_s, h3, h4, ih (by omega) x (by have := szVs_mem hx; omega)]) (s := ([], 0)) rfl]
    simp only [bnd_s, members_keep v.m (by omega) fun x hx => ih (by omega) x.v (by have := szMs_mem hx; have := szM_eq x; omega)]
    cases v; rfl
theorem seinekeep_Value_ok (v : GValue) (h : szV v < 1073741824) : seinekeep_Value v = some v := seinekeep_Value_ok' _ h v (Nat.le_refl _)
theorem szV_mem_bk {m : List GMember} (h : bkSl bkMember m < 1073741824) {x : GMember} (hx : x ∈ m) : szV x.v < 1073741824 := by
  have h1 := sl_mem (f := bkMember) hx
  have h2 := szM_bk x
  have h3 := szM_eq x
  omega
theorem seinekeep_Params_ok (l : List GParam) (h : l.length < 1073741824) : seinekeep_Params l = some l := by
  apply seinekeep_Params_run
  simp only [seinekeep_Params_B, tapp_nil l h, bnd_s]
/-! likenesses -/
theorem seineref6_SameParams_self (l : List GParam) (h : bkSl bkParam l < 1073741824) : seineref6_SameParams l l = some true := by
  apply seineref6_SameParams_run
  unfold seineref6_SameParams_B
  have hl := sl_len bkParam_pos l
  rw [loop_all (b := seineref6_SameParams_l1T l l) l (.inl ()) (by show l.length < _; omega) (by simp [seineref6_SameParams_l1T]) (by
    intro k x hx h1 h2 h3
    have hb := sl_mem (f := bkParam) hx
    rw [bkParam_eq] at hb
    have hv := szV_bk x.default
    simp only [seineref6_SameParams_l1T, h1, cnd_t, h2, bnd_s, h3, beq_self_eq_true, Bool.not_true, cnd_f, Bool.and_self, seineref1_Same_self x.default (by omega)])]
  simp
/-! how light -/
theorem lightTexts_ex (l : List Str) (h : l.length < 1073741824) : ∃ n, seinelaw8_lightTexts l = some n := by
  obtain ⟨r, hr⟩ := loop_ex (b := seinelaw8_lightTexts_l1T l) l (fun k (a : Int) => (a, (k : Int))) (by show l.length < _; omega) (fun a => ⟨a, by simp [seinelaw8_lightTexts_l1T]⟩) (by
    intro k x a hx h1 h2 h3
    right; simp only [seinelaw8_lightTexts_l1T, h1, cnd_t, h2, bnd_s, h3]; exact ⟨_, rfl⟩) (s := (0, 0)) (a := 0) rfl
  exact ⟨r, seinelaw8_lightTexts_run (by simp only [seinelaw8_lightTexts_B, hr, bnd_s])⟩
theorem lightParams_ex (l : List GParam) (h : bkSl bkParam l < 1073741824) : ∃ n, seinelaw8_lightParams l = some n := by
  have hl := sl_len bkParam_pos l
  obtain ⟨r, hr⟩ := loop_ex (b := seinelaw8_lightParams_l1T l) l (fun k (a : Int) => (a, (k : Int))) (by show l.length < _; omega) (fun a => ⟨a, by simp [seinelaw8_lightParams_l1T]⟩) (by
    intro k x a hx h1 h2 h3
    have hb := sl_mem (f := bkParam) hx
    rw [bkParam_eq] at hb
    have hv := szV_bk x.default
    right; simp only [seinelaw8_lightParams_l1T, h1, cnd_t, h2, bnd_s, h3, seinekeep_Size_ok x.default (by omega)]; exact ⟨_, rfl⟩) (s := (0, 0)) (a := 0) rfl
  exact ⟨r, seinelaw8_lightParams_run (by simp only [seinelaw8_lightParams_B, hr, bnd_s])⟩
theorem lightDirs_ex (l : List GDir) (h : bkSl bkDir l < 1073741824) : ∃ n, seinelaw8_lightDirs l = some n := by
  have hl := sl_len bkDir_pos l
  obtain ⟨r, hr⟩ := loop_ex (b := seinelaw8_lightDirs_l1T l) l (fun k (a : Int) => (a, (k : Int))) (by show l.length < _; omega) (fun a => ⟨a, by simp [seinelaw8_lightDirs_l1T]⟩) (by
    intro k x a hx h1 h2 h3
    have hb := sl_mem (f := bkDir) hx
    rw [bkDir_eq] at hb
    have hv : szV ⟨0, 0, [], [], x.args⟩ < 4611686018427387904 := by
      have h4 := szMs_bk x.args
      rw [bkMembers_eq] at h4
      simp only [szV, szVs, List.length_nil]
      have h5 : bkSl bkMember x.args = sumL bkMember x.args + 1 := rfl
      omega
    right; simp only [seinelaw8_lightDirs_l1T, h1, cnd_t, h2, bnd_s, h3, seinekeep_Size_ok _ hv]; exact ⟨_, rfl⟩) (s := (0, 0)) (a := 0) rfl
  exact ⟨r, seinelaw8_lightDirs_run (by simp only [seinelaw8_lightDirs_B, hr, bnd_s])⟩
theorem seinelaw8_Light_ex (s : GSchema) (h : SOk s) : ∃ b, seinelaw8_Light s = some b := by
  obtain ⟨r, hr⟩ := loop_ex (b := seinelaw8_Light_l2T s) s.defs (fun k (a : Int) => (a, (k : Int))) h.sm (fun a => ⟨a, by simp [seinelaw8_Light_l2T]⟩) (by
    intro k d a hd h1 h2 h3
    have hb := h.def_bk hd
    rw [bkDef_eq] at hb
    obtain ⟨n1, e1⟩ := lightTexts_ex d.faces (h.faces d hd)
    obtain ⟨n2, e2⟩ := lightTexts_ex d.parts (h.parts d hd)
    obtain ⟨n3, e3⟩ := lightParams_ex d.params (by omega)
    have hin : ∀ n0 : Int, ∃ n, tloop (seinelaw8_Light_l1T d) (n0, 0) = some n := by
      intro n0
      refine loop_ex (b := seinelaw8_Light_l1T d) d.fields (fun k (a : Int) => (a, (k : Int))) (by have := h.fields d hd; show d.fields.length < _; omega) (fun a => ⟨a, by simp [seinelaw8_Light_l1T]⟩) (by
        intro k f a hf h1 h2 h3
        have hfb := sl_mem (f := bkFieldDef) hf
        rw [bkFieldDef_eq] at hfb
        obtain ⟨m1, g1⟩ := lightParams_ex f.params (by omega)
        obtain ⟨m2, g2⟩ := lightDirs_ex f.dirs (by omega)
        right; simp only [seinelaw8_Light_l1T, h1, cnd_t, h2, bnd_s, h3, g1, g2]; exact ⟨_, rfl⟩) (a := n0) rfl
    right
    simp only [seinelaw8_Light_l2T, h1, cnd_t, h2, bnd_s, h3, e1, e2, e3]
    obtain ⟨n, hn⟩ := hin (IntKind.wrap .i64 ((IntKind.wrap .i64 ((IntKind.wrap .i64 ((IntKind.wrap .i64 ((IntKind.wrap .i64 (a + 1)) + (List.length d.name : Int))) + n1)) + n2)) + n3))
    rw [hn]
    exact ⟨n, rfl⟩) (s := (0, 0)) (a := 0) rfl
  exact ⟨decide (r ≤ 4000), seinelaw8_Light_run (by simp only [seinelaw8_Light_B, hr, bnd_s])⟩
end Go.Proofs.Yteiccdhdfcbokaa

/-
  Layer 16: known, once, needed.
-/
set_option linter.unusedVariables false
set_option linter.unusedSimpArgs false
open Go Go.Ev
namespace Go.Proofs.Yteiccdhdfcbokaa

theorem seinelaw16_awake_ok : seinelaw16_awake = some true := seinelaw16_awake_run 100 (by kernel_rfl)
theorem fs_any {α β : Type} (p : α → Bool) (g : α → β) : ∀ l : List α, (l.any p = true ∧ ∃ x, l.findSome? (fun x => bif p x then some (g x) else none) = some (g x)) ∨ (l.any p = false ∧ l.findSome? (fun x => bif p x then some (g x) else none) = none)
  | [] => .inr ⟨rfl, rfl⟩
  | x :: l => by
    rw [List.findSome?_cons, List.any_cons]
    cases hp : p x
    · simpa using fs_any p g l
    · exact .inl ⟨by simp, x, rfl⟩
def hasM (name : Str) (l : List GMember) : Bool := l.any fun x => x.name == name
def hasP (name : Str) (l : List GParam) : Bool := l.any fun x => x.name == name
theorem value_Get_ok (name : Str) (l : List GMember) (hl : Sm l) : ∃ v, value_Get name l = some (v, hasM name l) := by
  have h := loop_find (b := value_Get_l1T name l) l (fun x => bif x.name == name then some (.inr (x.v.kind, x.v.n, x.v.s, x.v.l, x.v.m)) else none) (.inl ()) hl (by simp only [value_Get_l1T, end_lt, cnd_f])
    (fun k x hx h1 h2 h3 => by
      simp only [value_Get_l1T, h1, h2, h3, bnd_s, cnd_t]
      cases x.name == name <;> rfl)
  rcases fs_any (fun x : GMember => x.name == name) (fun x => (.inr (x.v.kind, x.v.n, x.v.s, x.v.l, x.v.m) : Unit ⊕ (Int × Int × Str × (List GValue) × (List GMember)))) l with ⟨ha, x, hx⟩ | ⟨ha, hx⟩
  · refine ⟨x.v, value_Get_run (r := (x.v, hasM name l)) ?_⟩
    simp only [value_Get_B, h, hx, Option.getD_some, bnd_s, elim_inr, hasM, ha]
    obtain ⟨nm, ⟨_, _, _, _, _⟩⟩ := x; rfl
  · refine ⟨GValue.mk 0 0 [] [] [], value_Get_run (r := (GValue.mk 0 0 [] [] [], hasM name l)) ?_⟩
    simp only [value_Get_B, h, hx, Option.getD_none, bnd_s, elim_inl, hasM, ha]
theorem seineref1_Get_ok (name : Str) (l : List GMember) (hl : Sm l) : ∃ v, seineref1_Get name l = some (v, hasM name l) := by
  have h := loop_find (b := seineref1_Get_l1T name l) l (fun x => bif x.name == name then some (.inr (x.v.kind, x.v.n, x.v.s, x.v.l, x.v.m)) else none) (.inl ()) hl (by simp only [seineref1_Get_l1T, end_lt, cnd_f])
    (fun k x hx h1 h2 h3 => by
      simp only [seineref1_Get_l1T, h1, h2, h3, bnd_s, cnd_t]
      cases x.name == name <;> rfl)
  rcases fs_any (fun x : GMember => x.name == name) (fun x => (.inr (x.v.kind, x.v.n, x.v.s, x.v.l, x.v.m) : Unit ⊕ (Int × Int × Str × (List GValue) × (List GMember)))) l with ⟨ha, x, hx⟩ | ⟨ha, hx⟩
  · refine ⟨x.v, seineref1_Get_run (r := (x.v, hasM name l)) ?_⟩
    simp only [seineref1_Get_B, h, hx, Option.getD_some, bnd_s, elim_inr, hasM, ha]
    obtain ⟨nm, ⟨_, _, _, _, _⟩⟩ := x; rfl
  · refine ⟨GValue.mk 0 0 [] [] [], seineref1_Get_run (r := (GValue.mk 0 0 [] [] [], hasM name l)) ?_⟩
    simp only [seineref1_Get_B, h, hx, Option.getD_none, bnd_s, elim_inl, hasM, ha]
theorem seineref9_Param_ok (name : Str) (l : List GParam) (hl : Sm l) : ∃ v, seineref9_Param l name = some (v, hasP name l) := by
  have h := loop_find (b := seineref9_Param_l1T l name) l (fun x => bif x.name == name then some (.inr (x.name, x.t.name, x.t.lists, x.t.musts, x.has, x.default.kind, x.default.n, x.default.s, x.default.l, x.default.m)) else none) (.inl ()) hl (by simp only [seineref9_Param_l1T, end_lt, cnd_f])
    (fun k x hx h1 h2 h3 => by
      simp only [seineref9_Param_l1T, h1, h2, h3, bnd_s, cnd_t]
      cases x.name == name <;> rfl)
  rcases fs_any (fun x : GParam => x.name == name) (fun x => (.inr (x.name, x.t.name, x.t.lists, x.t.musts, x.has, x.default.kind, x.default.n, x.default.s, x.default.l, x.default.m) : Unit ⊕ (Str × Str × Int × Int × Bool × Int × Int × Str × (List GValue) × (List GMember)))) l with ⟨ha, x, hx⟩ | ⟨ha, hx⟩
  · refine ⟨x, seineref9_Param_run (r := (x, hasP name l)) ?_⟩
    simp only [seineref9_Param_B, h, hx, Option.getD_some, bnd_s, elim_inr, hasP, ha]
    obtain ⟨nm, t, has, ⟨_, _, _, _, _⟩⟩ := x; rfl
  · refine ⟨GParam.mk [] (GType.mk [] 0 0) false (GValue.mk 0 0 [] [] []), seineref9_Param_run (r := (GParam.mk [] (GType.mk [] 0 0) false (GValue.mk 0 0 [] [] []), hasP name l)) ?_⟩
    simp only [seineref9_Param_B, h, hx, Option.getD_none, bnd_s, elim_inl, hasP, ha]
theorem indexFunc_ok (s : List GParam) (hl : Sm s) (name : Str) : ∃ i, slices_IndexFunc_Param s [] [] 0 0 false 0 0 [] name = some i ∧ ((hasP name s = false ∧ i = -1) ∨ (hasP name s = true ∧ ∃ x, 0 ≤ i ∧ nthI s i = some x)) := by
  have h1 : ∀ p : GParam, literal_Param_1 p [] [] 0 0 false 0 0 [] name = some (p.name == name) := fun p => literal_Param_1_run (by simp only [literal_Param_1_B])
  have key : ∀ (n k : Nat), s.length - k ≤ n → k ≤ s.length → ∃ r, tloop (slices_IndexFunc_Param_l1T s [] [] 0 0 false 0 0 [] name) (k : Int) = some r ∧ ((hasP name (s.drop k) = false ∧ r = .inl ()) ∨ (hasP name (s.drop k) = true ∧ ∃ (i : Int) (x : GParam), r = .inr i ∧ 0 ≤ i ∧ nthI s i = some x)) := by
    intro n
    induction n with
    | zero =>
      intro k h2 h3
      have : k = s.length := by omega
      subst this
      refine ⟨.inl (), ?_, .inl ⟨by simp [hasP], rfl⟩⟩
      exact tloop_exit (by simp only [slices_IndexFunc_Param_l1T, end_lt, cnd_f])
    | succ n ih =>
      intro k h2 h3
      by_cases hk : k = s.length
      · subst hk
        refine ⟨.inl (), ?_, .inl ⟨by simp [hasP], rfl⟩⟩
        exact tloop_exit (by simp only [slices_IndexFunc_Param_l1T, end_lt, cnd_f])
      · have hlt : k < s.length := by omega
        have e1 : nthI s (k : Int) = some s[k] := by rw [nthI_nat]; exact List.getElem?_eq_getElem hlt
        have e2 : decide ((k : Int) < (s.length : Int)) = true := by simp; omega
        have e3 : IntKind.wrap .i64 ((k : Int) + 1) = ((k + 1 : Nat) : Int) := wadd (by have := hl; unfold Sm at this; omega)
        have e4 : hasP name (s.drop k) = (s[k].name == name || hasP name (s.drop (k + 1))) := by
          rw [List.drop_eq_getElem_cons hlt]; simp only [hasP, List.any_cons]
        rw [e4]
        cases hc : s[k].name == name
        · obtain ⟨r, hr, h4⟩ := ih (k + 1) (by omega) (by omega)
          refine ⟨r, ?_, by simpa using h4⟩
          rw [tloop_next (s' := ((k + 1 : Nat) : Int)) (by simp only [slices_IndexFunc_Param_l1T, e1, e2, e3, bnd_s, cnd_t, h1, hc, cnd_f])]
          exact hr
        · exact ⟨.inr k, tloop_exit (by simp only [slices_IndexFunc_Param_l1T, e1, e2, bnd_s, cnd_t, h1, hc]), .inr ⟨by simp, k, _, rfl, by omega, e1⟩⟩
  obtain ⟨r, hr, h⟩ := key s.length 0 (by omega) (by omega)
  rw [List.drop_zero] at h
  rcases h with ⟨h2, rfl⟩ | ⟨h2, i, x, rfl, h3, h4⟩
  · exact ⟨-1, slices_IndexFunc_Param_run (by simp only [slices_IndexFunc_Param_B]; rw [show tloop (slices_IndexFunc_Param_l1T s [] [] 0 0 false 0 0 [] name) 0 = _ from hr]; rfl), .inl ⟨h2, rfl⟩⟩
  · exact ⟨i, slices_IndexFunc_Param_run (by simp only [slices_IndexFunc_Param_B]; rw [show tloop (slices_IndexFunc_Param_l1T s [] [] 0 0 false 0 0 [] name) 0 = _ from hr]; rfl), .inr ⟨h2, x, h3, h4⟩⟩
theorem literal_Param_ok (name : Str) (l : List GParam) (hl : Sm l) : ∃ v, literal_Param l name = some (v, hasP name l) := by
  obtain ⟨i, hi, h⟩ := indexFunc_ok l hl name
  rcases h with ⟨h1, rfl⟩ | ⟨h1, x, h2, h3⟩
  · refine ⟨GParam.mk [] (GType.mk [] 0 0) false (GValue.mk 0 0 [] [] []), literal_Param_run (r := (_, _)) ?_⟩
    simp only [literal_Param_B, hi, bnd_s, h1]; rfl
  · refine ⟨x, literal_Param_run (r := (_, _)) ?_⟩
    have : decide (i < 0) = false := by simp; omega
    simp only [literal_Param_B, hi, bnd_s, h1, this, cnd_f, h3]
def knownD (l : List GParam) (m : List GMember) : Bool := m.all fun x => hasP x.name l
def neededD (l : List GParam) (m : List GMember) : Bool := l.all fun p => hasM p.name m || !(isT p.t && !p.has)
theorem args_Known_ok (l : List GParam) (m : List GMember) (hl : Sm l) (hm : Sm m) : args_Known l m = some (knownD l m) := by
  apply args_Known_run
  have h := loop_idx (b := args_Known_l1T l m) m (fun r => bif r.all fun x => hasP x.name l then (.inl () : Unit ⊕ Unit) else .inr ()) hm (by simp only [args_Known_l1T, end_lt, cnd_f]; rfl)
    (fun k x r hx h1 h2 h3 => by
      obtain ⟨v, hv⟩ := literal_Param_ok x.name l hl
      simp only [args_Known_l1T, h1, h2, h3, bnd_s, cnd_t, hv, List.all_cons]
      cases hasP x.name l
      · left; rfl
      · right; exact ⟨rfl, rfl⟩)
  simp only [args_Known_B, h, bnd_s, knownD]
  cases m.all fun x => hasP x.name l <;> rfl
theorem seineref13_Known_ok (l : List GParam) (m : List GMember) (hl : Sm l) (hm : Sm m) : seineref13_Known l m = some (knownD l m) := by
  apply seineref13_Known_run
  have h := loop_idx (b := seineref13_Known_l1T l m) m (fun r => bif r.all fun x => hasP x.name l then (.inl () : Unit ⊕ Unit) else .inr ()) hm (by simp only [seineref13_Known_l1T, end_lt, cnd_f]; rfl)
    (fun k x r hx h1 h2 h3 => by
      obtain ⟨v, hv⟩ := seineref9_Param_ok x.name l hl
      simp only [seineref13_Known_l1T, h1, h2, h3, bnd_s, cnd_t, hv, List.all_cons]
      cases hasP x.name l
      · left; rfl
      · right; exact ⟨rfl, rfl⟩)
  simp only [seineref13_Known_B, h, bnd_s, knownD]
  cases m.all fun x => hasP x.name l <;> rfl
theorem literal_Required_ok (p : GParam) (h : TOk p.t) : literal_Required p = some (isT p.t && !p.has) := by
  apply literal_Required_run
  simp only [literal_Required_B, wrap_Is_ok _ h, bnd_s]
  cases isT p.t <;> rfl
theorem args_Needed_ok (l : List GParam) (m : List GMember) (hl : Sm l) (hm : Sm m) (ht : ∀ p ∈ l, TOk p.t) : args_Needed l m = some (neededD l m) := by
  apply args_Needed_run
  have h := loop_idx (b := args_Needed_l1T l m) l (fun r => bif r.all fun p => hasM p.name m || !(isT p.t && !p.has) then (.inl () : Unit ⊕ Unit) else .inr ()) hl (by simp only [args_Needed_l1T, end_lt, cnd_f]; rfl)
    (fun k x r hx h1 h2 h3 => by
      obtain ⟨v, hv⟩ := value_Get_ok x.name m hm
      simp only [args_Needed_l1T, h1, h2, h3, bnd_s, cnd_t, hv, List.all_cons, literal_Required_ok x (ht x hx)]
      cases hasM x.name m
      · cases isT x.t && !x.has
        · right; exact ⟨rfl, rfl⟩
        · left; rfl
      · right; exact ⟨rfl, rfl⟩)
  simp only [args_Needed_B, h, bnd_s, neededD]
  cases l.all fun p => hasM p.name m || !(isT p.t && !p.has) <;> rfl
theorem seineref13_Needed_ok (l : List GParam) (m : List GMember) (hl : Sm l) (hm : Sm m) (ht : ∀ p ∈ l, TOk p.t) : seineref13_Needed l m = some (neededD l m) := by
  apply seineref13_Needed_run
  have h := loop_idx (b := seineref13_Needed_l1T l m) l (fun r => bif r.all fun p => hasM p.name m || !(isT p.t && !p.has) then (.inl () : Unit ⊕ Unit) else .inr ()) hl (by simp only [seineref13_Needed_l1T, end_lt, cnd_f]; rfl)
    (fun k x r hx h1 h2 h3 => by
      obtain ⟨v, hv⟩ := seineref1_Get_ok x.name m hm
      simp only [seineref13_Needed_l1T, h1, h2, h3, bnd_s, cnd_t, hv, List.all_cons, seineref1_Is_ok _ (ht x hx)]
      cases hasM x.name m
      · cases isT x.t
        · right; exact ⟨rfl, rfl⟩
        · cases x.has
          · left; rfl
          · right; exact ⟨rfl, rfl⟩
      · right; exact ⟨rfl, rfl⟩)
  simp only [seineref13_Needed_B, h, bnd_s, neededD]
  cases l.all fun p => hasM p.name m || !(isT p.t && !p.has) <;> rfl
def onceA : List GMember → List GMember → Bool
  | _, [] => true
  | a, x :: r => !hasM x.name a && onceA (a ++ [x]) r
def onceD (m : List GMember) : Bool := onceA [] m
theorem take_next {α : Type} {l : List α} {k : Nat} {x : α} {r : List α} (h : l.drop k = x :: r) (hk : k < l.length) : l.take k ++ [x] = l.take (k + 1) := by
  rw [List.take_succ_eq_append_getElem hk]
  rw [List.drop_eq_getElem_cons hk] at h
  rw [(List.cons.inj h).1]
theorem tslc_take {α : Type} (l : List α) (k : Nat) (h : k ≤ l.length) : tslc l 0 (k : Int) = some (l.take k) := by
  unfold tslc
  simp; omega
theorem args_Once_ok (m : List GMember) (hm : Sm m) : args_Once m = some (onceD m) := by
  apply args_Once_run
  have h := loop_list (b := args_Once_l1T m) m (fun k (_ : List GMember) => (k : Int)) (fun r a => bif onceA a r then (.inl () : Unit ⊕ Unit) else .inr ()) (fun k a => a = m.take k) hm
    (fun a ha => by simp only [args_Once_l1T, end_lt, cnd_f]; rfl)
    (fun k x r a hx hk hd h1 h2 h3 ha => by
      subst ha
      obtain ⟨v, hv⟩ := value_Get_ok x.name (m.take k) (by have := hm; unfold Sm at *; simp; omega)
      simp only [args_Once_l1T, h1, h2, h3, bnd_s, cnd_t, tslc_take m k (by omega), hv, onceA, take_next hd hk]
      cases hasM x.name (m.take k)
      · right; exact ⟨_, rfl, rfl, rfl⟩
      · left; rfl) (s := 0) (a := []) rfl rfl
  simp only [args_Once_B, h, bnd_s, onceD]
  cases onceA [] m <;> rfl
theorem beq_flip (a b : Str) : (a == b) = (b == a) := by rw [Bool.eq_iff_iff]; simp only [beq_iff_eq]; exact ⟨Eq.symm, Eq.symm⟩
theorem once_inner (m : List GMember) (hm : Sm m) (i : Nat) (x : GMember) (hi : i < m.length) (hx : nthI m (i : Int) = some x) :
    tloop (seineref13_Once_l1T m (i : Int)) 0 = some (bif hasM x.name (m.take i) then (.inr () : Unit ⊕ Unit) else .inl ()) := by
  have hlen : (m.take i).length = i := by simp; omega
  have h := loop_idx (b := seineref13_Once_l1T m (i : Int)) (m.take i) (fun r => bif hasM x.name r then (.inr () : Unit ⊕ Unit) else .inl ()) (by have := hm; unfold Sm at *; simp; omega)
    (by simp only [seineref13_Once_l1T, hlen, end_lt, cnd_f]; rfl)
    (fun k y r hy h1 h2 h3 => by
      rw [hlen] at h1
      have hk : k < i := by simpa using h1
      have h2' : nthI m (k : Int) = some y := by
        rw [nthI_nat] at h2 ⊢
        rw [List.getElem?_take, if_pos hk] at h2; exact h2
      simp only [seineref13_Once_l1T, h1, h2', h3, hx, bnd_s, cnd_t, hasM, List.any_cons, beq_flip x.name y.name]
      cases y.name == x.name
      · right; exact ⟨rfl, rfl⟩
      · left; rfl)
  exact h
theorem seineref13_Once_ok (m : List GMember) (hm : Sm m) : seineref13_Once m = some (onceD m) := by
  apply seineref13_Once_run
  have h := loop_list (b := seineref13_Once_l2T m) m (fun k (_ : List GMember) => (k : Int)) (fun r a => bif onceA a r then (.inl () : Unit ⊕ Unit) else .inr ()) (fun k a => a = m.take k) hm
    (fun a ha => by simp only [seineref13_Once_l2T, end_lt, cnd_f]; rfl)
    (fun k x r a hx hk hd h1 h2 h3 ha => by
      subst ha
      simp only [seineref13_Once_l2T, h1, h3, bnd_s, cnd_t, once_inner m hm k x hk h2, onceA, take_next hd hk]
      cases hasM x.name (m.take k)
      · right; exact ⟨_, rfl, rfl, rfl⟩
      · left; rfl) (s := 0) (a := []) rfl rfl
  simp only [seineref13_Once_B, h, bnd_s, onceD]
  cases onceA [] m <;> rfl
end Go.Proofs.Yteiccdhdfcbokaa

/-
  ArgsSays, of the typed functions.
-/
set_option linter.unusedVariables false
set_option linter.unusedSimpArgs false
open Go Go.Ev
namespace Go.Proofs.Yteiccdhdfcbokaa

theorem small_sok (params : List GParam) (h : bkSl bkParam params ≤ 1048576) : SOk (GSchema.mk [GDef.mk 0 [] [] [] [] params] [] []) := by
  refine ⟨?_⟩
  simp only [bkSchema_eq, bkSl, sumL, bkDef_eq, bkStr, bk1, List.length_nil] at h ⊢
  omega
theorem small_ex (params : List GParam) (l : List GMember) (h : bkSl bkParam params ≤ 1048576) (hl : szMs l < 1073741824) : ∃ b, seinelaw16_small params l = some b := by
  obtain ⟨b, hb⟩ := seinelaw8_Light_ex _ (small_sok params h)
  cases b
  · exact ⟨false, seinelaw16_small_run (by simp only [seinelaw16_small_B, hb, bnd_s]; rfl)⟩
  · refine ⟨decide ((szV (GValue.mk 0 0 [] [] l) : Int) ≤ 2000), seinelaw16_small_run ?_⟩
    simp only [seinelaw16_small_B, hb, bnd_s, cnd_t]
    rw [seinekeep_Size_ok _ (by rw [szV_eq]; simp [szVs]; omega)]; rfl
theorem toks {params : List GParam} (g : gdSl gdParam params) (h : bkSl bkParam params ≤ 1048576) : ∀ p ∈ params, TOk p.t := by
  intro p hp
  have g1 := g p hp
  rw [gdParam_eq, gdType_eq] at g1
  have h1 := sl_mem (f := bkParam) hp
  rw [bkParam_eq, bkType_eq] at h1
  refine ⟨gdI_i64 g1.2.1.2.1, gdI_i64 g1.2.1.2.2.1, ?_⟩
  simp only [bkStr] at h1; omega
theorem sm_params {params : List GParam} (h : bkSl bkParam params ≤ 1048576) : Sm params := by
  have := sl_len bkParam_pos params; show params.length < _; omega
theorem len_params {params : List GParam} (h : bkSl bkParam params ≤ 1048576) : params.length < 1073741824 := by
  have := sl_len bkParam_pos params; omega
theorem len_members {l : List GMember} (h : bkSl bkMember l ≤ 1048576) : l.length < 1073741824 := by
  have := sl_len bkMember_pos l; omega
theorem sm_members {l : List GMember} (h : bkSl bkMember l ≤ 1048576) : Sm l := by
  have := sl_len bkMember_pos l; show l.length < _; omega
theorem szMs_small {l : List GMember} (h : bkSl bkMember l ≤ 1048576) : szMs l < 1073741824 := by
  have : ∀ l : List GMember, szMs l ≤ sumL bkMember l := by
    intro l
    induction l with
    | nil => simp [szMs, sumL]
    | cons x l ih => simp only [szMs, sumL]; have := szM_bk x; omega
  have h1 := this l
  unfold bkSl at h; omega
theorem members_keepA (l : List GMember) (h : bkSl bkMember l ≤ 1048576) : seinekeep_Members l = some l :=
  members_keep l (len_members h) fun x hx => seinekeep_Value_ok _ (szV_mem_bk (by omega) hx)
theorem members_selfA (l : List GMember) (h : bkSl bkMember l ≤ 1048576) : seineref1_Members l l = some true :=
  members_of l (len_members h) fun x hx => seineref1_Same_self _ (szV_mem_bk (by omega) hx)
theorem seinelaw16_ArgsSays_ok (params : List GParam) (l : List GMember) (g : gdSl gdParam params) (h : bkSl bkParam params ≤ 1048576) (hl : bkSl bkMember l ≤ 1048576) : seinelaw16_ArgsSays params l = some true := by
  apply seinelaw16_ArgsSays_run
  obtain ⟨b, hb⟩ := small_ex params l h (szMs_small hl)
  have sp := sm_params h
  have sl := sm_members hl
  have ht := toks g h
  simp only [seinelaw16_ArgsSays_B, hb, bnd_s, seinelaw16_awake_ok, seinekeep_Params_ok params (len_params h), members_keepA l hl, args_Known_ok params l sp sl, seineref13_Known_ok params l sp sl, args_Once_ok l sl, seineref13_Once_ok l sl, args_Needed_ok params l sp sl ht, seineref13_Needed_ok params l sp sl ht, seineref6_SameParams_self params (by omega), members_selfA l hl, beq_self_eq_true, cnd_t, cnd_same]
end Go.Proofs.Yteiccdhdfcbokaa

/-
  ArgsTurned, of the typed functions.
-/
set_option linter.unusedVariables false
set_option linter.unusedSimpArgs false
open Go Go.Ev
namespace Go.Proofs.Yteiccdhdfcbokaa

theorem args_Once_i1_ok : args_Once_i1 = some true := by
  apply args_Once_i1_run
  simp only [args_Once_i1_B]
  rw [tloop_exit (r := .inl ()) (by simp [args_Once_i1_l1T, cnd])]
  rfl
theorem hasM_false {s : Str} {a : List GMember} : hasM s a = false ↔ ∀ y ∈ a, y.name ≠ s := by
  simp [hasM]
theorem hasM_iff {s : Str} {a : List GMember} : hasM s a = true ↔ ∃ y ∈ a, y.name = s := by
  simp [hasM]
theorem onceA_iff : ∀ (r a : List GMember), onceA a r = true ↔ (r.map (·.name)).Nodup ∧ ∀ x ∈ r, hasM x.name a = false
  | [], a => by simp [onceA]
  | x :: r, a => by
    simp only [onceA, Bool.and_eq_true, Bool.not_eq_true', onceA_iff r, List.map_cons, List.nodup_cons, hasM_false, List.mem_append, List.mem_cons, List.not_mem_nil, or_false, List.mem_map]
    constructor
    · rintro ⟨h1, h2, h3⟩
      refine ⟨⟨?_, h2⟩, ?_⟩
      · rintro ⟨y, hy, e⟩
        exact h3 y hy x (.inr rfl) e.symm
      · rintro y (rfl | hy)
        · exact h1
        · exact fun z hz => h3 y hy z (.inl hz)
    · rintro ⟨⟨h1, h2⟩, h3⟩
      refine ⟨h3 x (.inl rfl), h2, ?_⟩
      rintro y hy z (hz | rfl)
      · exact h3 y (.inr hy) z hz
      · exact fun e => h1 ⟨y, hy, e.symm⟩
theorem onceD_iff (m : List GMember) : onceD m = true ↔ (m.map (·.name)).Nodup := by
  simp [onceD, onceA_iff, hasM]
theorem onceD_perm {l m : List GMember} (h : l.Perm m) : onceD l = onceD m := by
  rw [Bool.eq_iff_iff, onceD_iff, onceD_iff]
  exact (h.map _).nodup_iff
theorem knownD_perm (p : List GParam) {l m : List GMember} (h : l.Perm m) : knownD p l = knownD p m := by
  rw [Bool.eq_iff_iff]; simp only [knownD, List.all_eq_true]
  exact ⟨fun g x hx => g x (h.mem_iff.2 hx), fun g x hx => g x (h.mem_iff.1 hx)⟩
theorem hasM_perm (s : Str) {l m : List GMember} (h : l.Perm m) : hasM s l = hasM s m := by
  rw [Bool.eq_iff_iff, hasM_iff, hasM_iff]
  exact ⟨fun ⟨y, hy, e⟩ => ⟨y, h.mem_iff.1 hy, e⟩, fun ⟨y, hy, e⟩ => ⟨y, h.mem_iff.2 hy, e⟩⟩
theorem neededD_perm (p : List GParam) {l m : List GMember} (h : l.Perm m) : neededD p l = neededD p m := by
  simp only [neededD, hasM_perm _ h]
/-- A number, taken as one without sign, by a length. -/
theorem rem_len (n : Nat) (by0 : Int) (h : 0 < n) (h' : n < 1073741824) : ∃ k : Nat, k < n ∧ trem0 (IntKind.wrap .u64 by0) (IntKind.wrap .u64 (n : Int)) = some (k : Int) := by
  have e : IntKind.wrap .u64 (n : Int) = (n : Int) := by rw [wu]; omega
  refine ⟨((by0 % 18446744073709551616) % (n : Int)).toNat, ?_, ?_⟩
  · have := Int.emod_lt_of_pos (by0 % 18446744073709551616) (show (0 : Int) < n by omega)
    have := Int.emod_nonneg (by0 % 18446744073709551616) (show (n : Int) ≠ 0 by omega)
    omega
  · rw [e, wu]
    unfold trem0
    rw [if_neg (by omega)]
    have := Int.emod_nonneg (by0 % 18446744073709551616) (show (n : Int) ≠ 0 by omega)
    rw [Int.tmod_eq_emod_of_nonneg (by omega)]
    rw [Int.toNat_of_nonneg this]
theorem tslc_drop {α : Type} (l : List α) (k : Nat) (h : k ≤ l.length) : tslc l (k : Int) (l.length : Int) = some (l.drop k) := by
  unfold tslc
  simp; omega
theorem seinelaw16_ArgsTurned_ok (params : List GParam) (l : List GMember) (by0 : Int) (g : gdSl gdParam params) (h : bkSl bkParam params ≤ 1048576) (hl : bkSl bkMember l ≤ 1048576) : seinelaw16_ArgsTurned params l by0 = some true := by
  apply seinelaw16_ArgsTurned_run
  obtain ⟨b, hb⟩ := small_ex params l h (szMs_small hl)
  have sp := sm_params h
  have sl := sm_members hl
  have ll := len_members hl
  have ht := toks g h
  simp only [seinelaw16_ArgsTurned_B, hb, bnd_s, seinelaw16_awake_ok, args_Once_i1_ok, cnd_t]
  cases b
  · rfl
  simp only [Bool.not_true, cnd_f]
  by_cases h0 : l = []
  · subst h0; rfl
  have hpos : 0 < l.length := List.length_pos_iff.2 h0
  have e0 : ((l.length : Int) == 0) = false := by simp; omega
  obtain ⟨k, hk, hr⟩ := rem_len l.length by0 hpos ll
  have ew : IntKind.wrap .i64 (k : Int) = (k : Int) := wn (by omega)
  simp only [e0, cnd_f, hr, bnd_s, ew, tslc_drop l k (by omega), tslc_take l k (by omega)]
  have e1 : tapp ([] : List GMember) (l.drop k) = some (l.drop k) := by rw [tapp_ok (by simp [lim_val]; omega)]; rfl
  have e2 : tapp (l.drop k) (l.take k) = some (l.drop k ++ l.take k) := tapp_ok (by simp [lim_val]; omega)
  have hp : (l.drop k ++ l.take k).Perm l := (List.perm_append_comm).trans (by rw [List.take_append_drop])
  have lm : (l.drop k ++ l.take k).length = l.length := hp.length_eq
  have sm : Sm (l.drop k ++ l.take k) := by unfold Sm; omega
  have e3 : tapp (l.drop k ++ l.take k) l = some (l.drop k ++ l.take k ++ l) := tapp_ok (by rw [lm, lim_val]; omega)
  have sm2 : Sm (l.drop k ++ l.take k ++ l) := by unfold Sm; rw [List.length_append, lm]; omega
  have e4 : onceD (l.drop k ++ l.take k ++ l) = false := by
    rw [Bool.eq_false_iff, Ne, onceD_iff, List.map_append, List.nodup_append]
    rintro ⟨_, _, h3⟩
    obtain ⟨x, r, rfl⟩ := List.exists_cons_of_ne_nil h0
    have hm : x.name ∈ ((x :: r).drop k ++ (x :: r).take k).map (·.name) := List.mem_map.2 ⟨x, hp.mem_iff.2 (by simp), rfl⟩
    exact h3 x.name hm x.name (by simp) rfl
  simp only [e1, bnd_s, e2, args_Known_ok params _ sp sm, args_Known_ok params l sp sl, knownD_perm params hp, beq_self_eq_true, Bool.not_true, cnd_f, args_Once_ok _ sm, args_Once_ok l sl, onceD_perm hp,
    args_Needed_ok params _ sp sm ht, args_Needed_ok params l sp sl ht, neededD_perm params hp, e3, args_Once_ok _ sm2, e4, Bool.not_false, cnd_t]
end Go.Proofs.Yteiccdhdfcbokaa

/-
  ArgsFull, of the typed functions.
-/
set_option linter.unusedVariables false
set_option linter.unusedSimpArgs false
open Go Go.Ev
namespace Go.Proofs.Yteiccdhdfcbokaa

theorem small_i1_ex (params : List GParam) (h : bkSl bkParam params ≤ 1048576) : ∃ b, seinelaw16_small_i1 params = some b := by
  obtain ⟨b, hb⟩ := seinelaw8_Light_ex _ (small_sok params h)
  cases b
  · exact ⟨false, seinelaw16_small_i1_run (by simp only [seinelaw16_small_i1_B, hb, bnd_s]; rfl)⟩
  · refine ⟨true, seinelaw16_small_i1_run ?_⟩
    simp only [seinelaw16_small_i1_B, hb, bnd_s, cnd_t]
    rw [seinekeep_Size_ok _ (by rw [szV_eq]; simp [szVs, szMs])]; rfl
def mark (p : GParam) : GMember := GMember.mk p.name (GValue.mk 0 0 [] [] [])
theorem full_inner (params : List GParam) (hm : Sm params) (i : Nat) (x : GParam) (t : Bool) (hi : i < params.length) (hx : nthI params (i : Int) = some x) :
    tloop (seinelaw16_ArgsFull_l1T params (i : Int)) (t, 0) = some (t || hasM x.name ((params.take i).map mark)) := by
  have hlen : (params.take i).length = i := by simp; omega
  have h := loop_list (b := seinelaw16_ArgsFull_l1T params (i : Int)) (params.take i) (fun k (t : Bool) => (t, (k : Int))) (fun r t => t || hasM x.name (r.map mark)) (fun _ _ => True) (by have := hm; unfold Sm at *; simp; omega)
    (fun a _ => by simp only [seinelaw16_ArgsFull_l1T, hlen, end_lt, cnd_f, List.map_nil, hasM, List.any_nil, Bool.or_false])
    (fun k y r a hy hk hd h1 h2 h3 _ => by
      rw [hlen] at h1
      have hk : k < i := by simpa using h1
      have h2' : nthI params (k : Int) = some y := by
        rw [nthI_nat] at h2 ⊢
        rw [List.getElem?_take, if_pos hk] at h2; exact h2
      simp only [seinelaw16_ArgsFull_l1T, h1, h2', h3, hx, bnd_s, cnd_t]
      right
      cases a
      · exact ⟨_, rfl, trivial, by simp [hasM, mark]⟩
      · exact ⟨_, rfl, trivial, by simp⟩) (s := (t, 0)) (a := t) rfl trivial
  exact h
theorem full_outer (params : List GParam) (h : params.length < 1073741824) :
    tloop (seinelaw16_ArgsFull_l2T params) ([], false, 0) = some (params.map mark, !onceD (params.map mark)) := by
  have hm : Sm params := by unfold Sm; omega
  have h := loop_list (b := seinelaw16_ArgsFull_l2T params) params (fun k (a : List GMember × Bool) => (a.1, a.2, (k : Int))) (fun r a => (a.1 ++ r.map mark, a.2 || !onceA a.1 (r.map mark))) (fun k a => a.1 = (params.take k).map mark) hm
    (fun a ha => by simp only [seinelaw16_ArgsFull_l2T, end_lt, cnd_f, List.map_nil, onceA, List.append_nil, Bool.not_true, Bool.or_false])
    (fun k x r a hx hk hd h1 h2 h3 ha => by
      obtain ⟨l, t⟩ := a
      simp only at ha
      subst ha
      have e : tapp ((params.take k).map mark) [mark x] = some ((params.take k).map mark ++ [mark x]) := tapp_ok (by simp [lim_val]; omega)
      have e' := e
      simp only [mark] at e'
      right
      refine ⟨((params.take (k + 1)).map mark, t || hasM x.name ((params.take k).map mark)), ?_, rfl, ?_⟩
      · have tk := take_next hd hk
        simp only [seinelaw16_ArgsFull_l2T, h1, cnd_t, full_inner params hm k x t hk h2, bnd_s, h2, h3]
        rw [show (GMember.mk x.name (GValue.mk 0 0 [] [] [])) = mark x from rfl, e, bnd_s, ← tk]
        simp
      · have tk := take_next hd hk
        simp only [← tk, List.map_append, List.map_cons, List.map_nil, onceA, List.append_assoc, List.cons_append, List.nil_append, Bool.not_and, Bool.not_not, Bool.or_assoc]
        rfl) (s := ([], false, 0)) (a := ([], false)) rfl rfl
  rw [h]; rfl
theorem hasM_marks (s : Str) (l : List GParam) : hasM s (l.map mark) = hasP s l := by
  simp [hasM, hasP, mark, Function.comp_def]
theorem seinelaw16_ArgsFull_ok (params : List GParam) (at0 : Int) (g : gdSl gdParam params) (h : bkSl bkParam params ≤ 1048576) : seinelaw16_ArgsFull params at0 = some true := by
  apply seinelaw16_ArgsFull_run
  obtain ⟨b, hb⟩ := small_i1_ex params h
  have sp := sm_params h
  have lp := len_params h
  have ht := toks g h
  simp only [seinelaw16_ArgsFull_B, hb, bnd_s, seinelaw16_awake_ok]
  cases b
  · rfl
  simp only [Bool.not_true, cnd_f]
  by_cases h0 : params = []
  · subst h0; rfl
  have hpos : 0 < params.length := List.length_pos_iff.2 h0
  have e0 : ((params.length : Int) == 0) = false := by simp; omega
  obtain ⟨k, hk, hr⟩ := rem_len params.length at0 hpos lp
  have ew : IntKind.wrap .i64 (k : Int) = (k : Int) := wn (by omega)
  have ew1 : IntKind.wrap .i64 ((k : Int) + 1) = ((k + 1 : Nat) : Int) := wadd (by omega)
  have lm : (params.map mark).length = params.length := by simp
  have hd : tslc (params.map mark) ((k + 1 : Nat) : Int) ((params.map mark).length : Int) = some ((params.map mark).drop (k + 1)) := tslc_drop _ _ (by rw [lm]; omega)
  have e1 : tapp ([] : List GMember) ((params.map mark).take k) = some ((params.map mark).take k) := by rw [tapp_ok (by simp [lim_val]; omega)]; rfl
  have e2 : tapp ((params.map mark).take k) ((params.map mark).drop (k + 1)) = some ((params.map mark).take k ++ (params.map mark).drop (k + 1)) := tapp_ok (by simp [lim_val]; omega)
  have sm : Sm (params.map mark) := by unfold Sm; rw [lm]; exact sp
  have sm2 : Sm ((params.map mark).take k ++ (params.map mark).drop (k + 1)) := by unfold Sm; simp; omega
  have k1 : knownD params (params.map mark) = true := by
    simp only [knownD, List.all_eq_true, List.mem_map]
    rintro x ⟨p, hp, rfl⟩
    exact List.any_eq_true.2 ⟨p, hp, by simp [mark]⟩
  have k2 : neededD params (params.map mark) = true := by
    simp only [neededD, List.all_eq_true]
    intro p hp
    rw [Bool.or_eq_true]; left
    exact hasM_iff.2 ⟨mark p, List.mem_map.2 ⟨p, hp, rfl⟩, rfl⟩
  have tk : tslc (params.map mark) 0 (k : Int) = some ((params.map mark).take k) := tslc_take _ k (by rw [lm]; omega)
  have hx : nthI params (k : Int) = some params[k] := by rw [nthI_nat]; exact List.getElem?_eq_getElem hk
  have htk := ht _ (List.getElem_mem hk)
  simp only [e0, cnd_f, full_outer params lp, bnd_s, hr, ew, ew1, tk, hd, e1, e2, args_Known_ok params _ sp sm, k1, Bool.not_true, args_Once_ok _ sm, args_Needed_ok params _ sp sm ht, k2,
    args_Needed_ok params _ sp sm2 ht, hx, wrap_Is_ok _ htk]
  cases ho : onceD (params.map mark)
  · rfl
  simp only [Bool.not_true, cnd_f, show (true == false) = false from rfl]
  have hnd := (onceD_iff _).1 ho
  have key : neededD params ((params.map mark).take k ++ (params.map mark).drop (k + 1)) = (params[k].has || !isT params[k].t) := by
    have hnd' : (params.map (·.name)).Nodup := by simpa [mark, Function.comp_def] using hnd
    have h1 : hasM params[k].name ((params.map mark).take k ++ (params.map mark).drop (k + 1)) = false := by
      rw [hasM_false]
      intro y hy e
      rw [List.mem_append] at hy
      have hsplit : params.map (·.name) = (params.take k).map (·.name) ++ params[k].name :: (params.drop (k + 1)).map (·.name) := by
        rw [← List.map_cons (f := fun x : GParam => x.name) (a := params[k]), ← List.map_append, ← List.drop_eq_getElem_cons hk, List.take_append_drop]
      rw [hsplit, List.nodup_append] at hnd'
      obtain ⟨_, n2, n3⟩ := hnd'
      rcases hy with hy | hy
      · rw [← List.map_take, List.mem_map] at hy
        obtain ⟨p, hp, rfl⟩ := hy
        exact n3 p.name (List.mem_map.2 ⟨p, hp, rfl⟩) params[k].name (by simp) e
      · rw [← List.map_drop, List.mem_map] at hy
        obtain ⟨p, hp, rfl⟩ := hy
        exact (List.nodup_cons.1 n2).1 (List.mem_map.2 ⟨p, hp, e⟩)
    have h2 : ∀ p ∈ params, p.name ≠ params[k].name → hasM p.name ((params.map mark).take k ++ (params.map mark).drop (k + 1)) = true := by
      intro p hp hne
      obtain ⟨j, hj, rfl⟩ := List.getElem_of_mem hp
      have hjk : j ≠ k := by rintro rfl; exact hne rfl
      rw [hasM_iff]
      refine ⟨mark params[j], ?_, rfl⟩
      rw [List.mem_append]
      by_cases hlt : j < k
      · left
        rw [← List.map_take]
        exact List.mem_map.2 ⟨_, List.mem_take_iff_getElem.2 ⟨j, by omega, rfl⟩, rfl⟩
      · right
        rw [← List.map_drop]
        exact List.mem_map.2 ⟨_, List.mem_drop_iff_getElem.2 ⟨j - (k + 1), by omega, by congr 1; omega⟩, rfl⟩
    cases hh : (params[k].has || !isT params[k].t)
    · rw [Bool.eq_false_iff, Ne, neededD, List.all_eq_true]
      intro hall
      have := hall _ (List.getElem_mem hk)
      rw [h1] at this
      rw [Bool.or_eq_false_iff] at hh
      simp [hh.1] at this hh
      simp [this] at hh
    · rw [neededD, List.all_eq_true]
      intro p hp
      by_cases hne : p.name = params[k].name
      · have : p = params[k] := by
          obtain ⟨j, hj, rfl⟩ := List.getElem_of_mem hp
          have := (List.getElem_inj (i := j) (j := k) (h₀ := by simpa using hj) (h₁ := by simpa using hk) hnd').1 (by simpa using hne)
          subst this; rfl
        subst this
        rw [h1]
        cases h3 : params[k].has <;> cases h4 : isT params[k].t <;> simp [h3, h4] at hh ⊢
      · rw [h2 p hp hne]; rfl
  rw [key]
  cases params[k].has <;> cases isT params[k].t <;> rfl
end Go.Proofs.Yteiccdhdfcbokaa

/-
  What is asked of the program as a whole.
-/
set_option linter.unusedVariables false
open Go Go.Ev
open Go.ChangeShapes Go.WideShapes Go.ChangeAt Go.RowKit
namespace Go.Proofs.Yteiccdhdfcbokaa
theorem mixed : Try.prog.follows .mixedOrders = true := by kernel_rfl
theorem names : (Try.prog.funcs.toList.all fun fn => !fn.body.isSome || !(fn.name == "runtime.NumGoroutine")) = true := by kernel_rfl
theorem laid : laidOutB Try.prog = true := by kernel_rfl
theorem pok : POk Try.prog := by
  refine ⟨mixed, fun f fn hf hb => ?_⟩
  have hm : fn ∈ Try.prog.funcs.toList := by
    have := Array.mem_of_getElem? hf
    simpa using this
  have := List.all_eq_true.1 names fn hm
  rw [hb] at this
  simpa using this
theorem xok : ExtOk Try.prog XT := fun f g h => by simp [XT] at h
theorem blOk {H : Type} : BlOk (H := H) Rows.uptoBulk Rows.uptoBulkAll := by
  refine ⟨fun l => ?_, fun s => ?_, ?_, fun es sp => ?_, fun ps => ?_, fun d r => ?_⟩
  · cases l <;> simp [Rows.uptoBulk]
  · simp [Rows.uptoBulk]
  · simp [Rows.uptoBulk]
  · simp only [Rows.uptoBulk]; omega
  · simp only [Rows.uptoBulk]; omega
  · simp [Rows.uptoBulkAll]
theorem own : ownKnob Try.prog.godebug = none := by kernel_rfl
end Go.Proofs.Yteiccdhdfcbokaa

/-
  ArgsFull: one argument for each parameter is enough, and known, and each once, if no two parameters have one name; without one that must be there it is not enough. Conditions: none beside the row's own (bulk at most 1048576).
-/
set_option linter.unusedVariables false
open Go Go.Ev
open Go.ChangeShapes Go.WideShapes Go.ChangeAt Go.RowKit
namespace Go.Proofs.Yteiccdhdfcbokaa
namespace argsFull
def fs : Ty := (.fcons (.sl (.ext 3)) (.fcons (.int .i64) .fnil))
theorem lawF : ∀ x : fs.den RS, good RS fs x → bulkL RS fs x ≤ 1048576 → OL Try.prog MT XT 5 (encL RS fs x) [] = some (.bool true, []) := by
  rintro ⟨x0, x1, _⟩ g b
  have b' : (bkSl bkParam) x0 + (bk1 x1 + (0)) ≤ 1048576 := b
  obtain ⟨g0, g1, _⟩ := g
  have g0' : (gdSl gdParam) x0 := g0
  have g1' : (gdI .i64) x1 := g1
  have e : encL RS fs (x0, x1, ()) = [.slice (List.map encParam x0) [] false, (PV.int .i64) x1] := rfl
  rw [e]
  change O 5 _ _ = _
  have h := seinelaw16_ArgsFull_spec (seinelaw16_ArgsFull_ok x0 x1 g0' (by omega))
  simpa only [tys, seinelaw16_ArgsFullE] using h
set_option maxRecDepth 100000 in
theorem contract (H : Type) (enc : TypeId × Value → H) (W : World) (base : Nat) (args : Array Value) (ds gs : List (DataW H)) (before : List MemPlace)
    (hval : ∀ (j : Nat) t v, Try.f5.params[j]? = some t → args[j]? = some v → Value.okWide Try.prog W .any base t v)
    (hW : DataW.Whole enc Try.prog Try.f5.params.toList Rows.argsFullSpec.vars false W args.toList ds gs before) (hk : Rows.uptoSmall H (ds ++ gs) = true) :
    Calls Try.prog 5 args W fun e W' => ∃ v, e = .returned v ∧ Rows.argsFullSpec.post enc Try.prog Try.f5 false true false false W args v W' := by
  have hg : gs = [] := by
    obtain ⟨p, q, hA, hV, _⟩ := hW
    exact (trodVars_none hV).1
  have hb : Rows.uptoBulkAll ds ≤ 1048576 := by
    have := of_decide_eq_true hk
    simpa [hg] using this
  have hlen : ds.length = 2 := by
    obtain ⟨p, q, hA0, hV, _⟩ := hW
    have hA : DataW.TrodAll enc Try.prog W 0 (fun _ => true) true Try.f5.params.toList args.toList ds p := hA0
    rw [Try.params5] at hA
    obtain ⟨v0, vs0, d0, ds0, p0, q0, h0, rfl, rfl, ht0, r0⟩ := trodAll_cons hA
    obtain ⟨v1, vs1, d1, ds1, p1, q1, h1, rfl, rfl, ht1, r1⟩ := trodAll_cons r0
    obtain ⟨rfl, rfl, rfl⟩ := trodAll_nil r1
    rfl
  refine contract_true pok xok laid blOk Try.func5 rfl (n := 9) (ρ := RS) (τ := TS) (fs := fs) (tb := 4) (by kernel_rfl) (by rw [show Try.f5.resultTypes = #[4] from rfl]) Try.underlying4 rfl (rok enc W blOk) ?_ hval hW hb lawF
  subst hg
  match ds, hlen with
  | [d0, d1], _ => exact ⟨rfl, rfl, rfl⟩
set_option maxRecDepth 100000 in
theorem lifted (os : Os) (started : os.Started) (H : Type) (enc : TypeId × Value → H) (F : Stop.Interp) :
    ReturnsInHanded {} Try.checked os 5 .any ((Rows.OpenSpec.upto Rows.argsFullSpec).pre6 enc Try.prog Try.f5 Rows.argsFullUptoRow.domain false) (((Rows.OpenSpec.upto Rows.argsFullSpec).at F).post enc Try.prog Try.f5 false true false false) := by
  refine returnsInHanded_of_cond (C := Try.checked) (s := Rows.OpenSpec.upto Rows.argsFullSpec) (k := Rows.uptoSmall) rfl own started (by kernel_rfl) Try.func5
    (OpenSpec.witness (enc := enc) (C := Try.checked) (s := Rows.OpenSpec.upto Rows.argsFullSpec) (k := Rows.uptoSmall) rfl false ⟨#[], #[.slice none 0 0, .int .i64 0], []⟩ 8 (by kernel_rfl) (by kernel_rfl) (by kernel_rfl)
      (x := ([.nil, .lit (.int .i64 0)], [], [])) (by kernel_rfl) rfl (by kernel_rfl)) ?_
  intro W base args ds gs before hval hW _ hk _
  exact contract H enc W base args ds gs before hval hW hk
theorem over : Rows.argsFullUptoRow.holds Try.pinned (Rows.OpenSpec.upto Rows.argsFullSpec) :=
  OpenClaim.holds_of_cond 5 Try.f5 rfl rfl rfl rfl rfl rfl rfl ⟨rfl, rfl, rfl, rfl, rfl⟩ rfl rfl rfl rfl rfl (by kernel_rfl) Try.func5 (by kernel_rfl)
    (of_decide_eq_true (by kernel_rfl)) (by unfold Func.isWrapper; first | (rw [if_pos (by decide +kernel)]; kernel_rfl) | (rw [if_neg (by decide +kernel)]; exact ⟨rfl, rfl⟩))
    (fun os started H enc _ F => lifted os started H enc F)
theorem proved : Rows.ArgsFullUptoSaid :=
  over
end argsFull
end Go.Proofs.Yteiccdhdfcbokaa
