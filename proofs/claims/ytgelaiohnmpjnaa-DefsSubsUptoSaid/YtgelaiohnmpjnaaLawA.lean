/-
  DefsSubs: of any schema: whether what is the one type is what the other one asks for is the page's; each type that may be is its own. Conditions: none beside the row's own (bulk at most 1048576).
-/
import Derived.Test.YtgelaiohnmpjnaaGb
import Derived.Test.YtgelaiohnmpjnaaEd
import Derived.KernelRfl
import Derived.Test.YtgelaiohnmpjnaaGa
import Derived.Test.YtgelaiohnmpjnaaRows
import Derived.WalkKit
import Derived.ProofKit
import Derived.OpenShut
import Derived.JoinedCond
set_option linter.unusedVariables false
set_option linter.unusedSimpArgs false
/-
  Names: the program's and the reference's are alike.
-/
set_option linter.unusedVariables false
set_option linter.unusedSimpArgs false
open Go Go.Ev
namespace Go.Proofs.Ytgelaiohnmpjnaa

def letter (c : Int) : Bool := (decide (97 ≤ c) && decide (c ≤ 122)) || ((decide (65 ≤ c) && decide (c ≤ 90)) || c == 95)
def digit (c : Int) : Bool := decide (48 ≤ c) && decide (c ≤ 57)
theorem letters_Letter_ok (c : Int) : letters_Letter c = some (letter c) := by
  apply letters_Letter_run
  simp only [letters_Letter_B, letter, cnd_ite, ge_iff_le]
  cases decide (97 ≤ c) <;> cases decide (c ≤ 122) <;> cases decide (65 ≤ c) <;> cases decide (c ≤ 90) <;> simp
theorem letters_Digit_ok (c : Int) : letters_Digit c = some (digit c) := by
  apply letters_Digit_run
  simp only [letters_Digit_B, digit, cnd_ite, ge_iff_le]
  cases decide (48 ≤ c) <;> simp
theorem seineref1_start_ok (c : Int) : seineref1_start c = some (letter c) := by
  apply seineref1_start_run
  simp only [seineref1_start_B, letter, cnd_ite, ge_iff_le]
  cases decide (97 ≤ c) <;> cases decide (c ≤ 122) <;> cases decide (65 ≤ c) <;> cases decide (c ≤ 90) <;> simp
theorem seineref1_digit_ok (c : Int) : seineref1_digit c = some (digit c) := by
  apply seineref1_digit_run
  simp only [seineref1_digit_B, digit, cnd_ite, ge_iff_le]
  cases decide (48 ≤ c) <;> simp

/-- All of these may stand behind a name's first sign. -/
def inName (c : UInt8) : Bool := letter c.toNat || digit c.toNat
def isName : Str → Bool
  | [] => false
  | c :: s => letter c.toNat && s.all inName
theorem letters_Name_ok (s : Str) (h : s.length < 4611686018427387904) : letters_Name s = some (isName s) := by
  apply letters_Name_run
  have key := tloop_list (b := letters_Name_l1T s) s (fun k (_ : Unit) => (k : Int)) (fun r _ => if r.all (fun c => inName c) then Sum.inl () else Sum.inr ()) (fun k _ => 1 ≤ k)
    (by
      intro a _
      simp [letters_Name_l1T])
    (by
      intro k x r a hk hx hd hI
      have e1 : (decide ((k : Int) < (List.length s : Int))) = true := by simp; omega
      have e2 : ((k : Int) == 0) = false := by simp; omega
      have e3 : IntKind.wrap .i64 ((k : Int) + 1) = ((k + 1 : Nat) : Int) := wadd (by omega)
      simp only [letters_Name_l1T, e1, cnd_t, nthI_nat, hx, bnd_s, letters_Letter_ok, letters_Digit_ok, e2, cnd_f, e3]
      cases h1 : letter x.toNat <;> cases h2 : digit x.toNat <;> simp [inName, h1, h2])
  unfold letters_Name_B
  cases s with
  | nil =>
    rw [tloop_exit (r := .inl ()) (by simp [letters_Name_l1T])]
    simp [isName]
  | cons c s =>
    have e1 : (decide ((0 : Int) < (List.length (c :: s) : Int))) = true := by simp
    cases h1 : letter c.toNat with
    | false =>
      rw [tloop_exit (r := .inr ()) (by
        have : nthI (c :: s) 0 = some c := rfl
        simp only [letters_Name_l1T, e1, cnd_t, this, bnd_s, letters_Letter_ok, h1]; rfl)]
      simp [isName, h1]
    | true =>
      rw [tloop_next (s' := ((1 : Nat) : Int)) (by
        have : nthI (c :: s) 0 = some c := rfl
        simp only [letters_Name_l1T, e1, cnd_t, this, bnd_s, letters_Letter_ok, h1]; rfl)]
      rw [key 1 () (by simp) (by omega)]
      simp only [List.drop_succ_cons, List.drop_zero, bnd_s, isName, h1, Bool.true_and]
      cases h2 : s.all inName <;> simp
theorem seineref1_Name_ok (s : Str) (h : s.length < 4611686018427387904) : seineref1_Name s = some (isName s) := by
  apply seineref1_Name_run
  have key := tloop_list (b := seineref1_Name_l1T s) s (fun k (_ : Unit) => (k : Int)) (fun r _ => if r.all (fun c => inName c) then Sum.inl () else Sum.inr ()) (fun k _ => 1 ≤ k)
    (by
      intro a _
      simp [seineref1_Name_l1T])
    (by
      intro k x r a hk hx hd hI
      have e1 : (decide ((k : Int) < (List.length s : Int))) = true := by simp; omega
      have e3 : IntKind.wrap .i64 ((k : Int) + 1) = ((k + 1 : Nat) : Int) := wadd (by omega)
      simp only [seineref1_Name_l1T, e1, cnd_t, nthI_nat, hx, bnd_s, seineref1_start_ok, seineref1_digit_ok, cnd_f, e3]
      cases h1 : letter x.toNat <;> cases h2 : digit x.toNat <;> simp [inName, h1, h2])
  unfold seineref1_Name_B
  cases s with
  | nil => rfl
  | cons c s =>
    have : nthI (c :: s) 0 = some c := rfl
    have e0 : ((c :: s) == ([] : Str)) = false := rfl
    simp only [e0, cnd_f, this, bnd_s, seineref1_start_ok]
    cases h1 : letter c.toNat with
    | false => simp [isName, h1]
    | true =>
      have := key 1 () (by simp) (by omega)
      rw [show ((1 : Nat) : Int) = 1 from rfl] at this
      simp only [Bool.not_true, cnd_f, this, List.drop_succ_cons, List.drop_zero, bnd_s, isName, h1, Bool.true_and]
      cases h2 : s.all inName <;> simp

end Go.Proofs.Ytgelaiohnmpjnaa

/-
  Sizes of values.
-/
set_option linter.unusedVariables false
set_option linter.unusedSimpArgs false
open Go Go.Ev
namespace Go.Proofs.Ytgelaiohnmpjnaa

/-! sizes -/
mutual
def szV : GValue → Nat
  | ⟨_, _, s, l, m⟩ => 1 + s.length + szVs l + szMs m
def szVs : List GValue → Nat
  | [] => 0
  | x :: l => szV x + szVs l
def szM : GMember → Nat
  | ⟨n, v⟩ => n.length + szV v
def szMs : List GMember → Nat
  | [] => 0
  | x :: l => szM x + szMs l
end
theorem szV_eq (v : GValue) : szV v = 1 + v.s.length + szVs v.l + szMs v.m := by cases v; simp only [szV]
theorem szM_eq (x : GMember) : szM x = x.name.length + szV x.v := by cases x; simp only [szM]
theorem szVs_mem {x : GValue} : ∀ {l : List GValue}, x ∈ l → szV x ≤ szVs l
  | a :: l, h => by
    simp only [szVs]
    rcases List.mem_cons.1 h with rfl | h
    · omega
    · have := szVs_mem h; omega
theorem szMs_mem {x : GMember} : ∀ {l : List GMember}, x ∈ l → szM x ≤ szMs l
  | a :: l, h => by
    simp only [szMs]
    rcases List.mem_cons.1 h with rfl | h
    · omega
    · have := szMs_mem h; omega
theorem szVs_len : ∀ (l : List GValue), l.length ≤ szVs l
  | [] => by simp [szVs]
  | a :: l => by have := szVs_len l; have := szV_eq a; simp only [szVs, List.length_cons]; omega
theorem szMs_len : ∀ (l : List GMember), l.length ≤ szMs l
  | [] => by simp [szMs]
  | a :: l => by have := szMs_len l; have := szM_eq a; have := szV_eq a.v; simp only [szMs, List.length_cons]; omega
theorem szVs_app : ∀ (l m : List GValue), szVs (l ++ m) = szVs l + szVs m
  | [], m => by simp [szVs]
  | a :: l, m => by simp only [List.cons_append, szVs, szVs_app l m]; omega
theorem seinekeep_Size_ok' : ∀ (n : Nat), n < 4611686018427387904 → ∀ v : GValue, szV v ≤ n → seinekeep_Size v = some (szV v : Int) := by
  intro n
  induction n with
  | zero => intro _ v h; have := szV_eq v; omega
  | succ n ih =>
    intro hn v h
    have hv := szV_eq v
    have hl := szVs_len v.l
    have hm := szMs_len v.m
    apply seinekeep_Size_run
    unfold seinekeep_Size_B
    have k1 := tloop_list (b := seinekeep_Size_l1T v) v.l (fun k (a : Nat) => ((a : Int), (k : Int))) (fun r a => ((a + szVs r : Nat) : Int)) (fun k a => a + szVs (v.l.drop k) ≤ 1 + v.s.length + szVs v.l)
      (by
        intro a _
        simp [seinekeep_Size_l1T, szVs])
      (by
        intro k x r a hk hx hd hI
        have hxm : x ∈ v.l := List.mem_of_getElem? hx
        have h1 := szVs_mem hxm
        have h2 := ih (by omega) x (by omega)
        rw [hd] at hI
        simp only [szVs] at hI
        have e1 : (decide ((k : Int) < (List.length v.l : Int))) = true := by simp; omega
        have e3 : IntKind.wrap .i64 ((k : Int) + 1) = ((k + 1 : Nat) : Int) := wadd (by omega)
        have e4 : IntKind.wrap .i64 ((a : Int) + (szV x : Int)) = ((a + szV x : Nat) : Int) := by rw [wi (by omega)]; omega
        refine .inr ⟨a + szV x, ?_, ?_, ?_⟩
        · simp only [seinekeep_Size_l1T, e1, cnd_t, nthI_nat, hx, bnd_s, h2, e3, e4]
        · have : v.l.drop (k + 1) = r := by rw [← List.tail_drop, hd]; rfl
          rw [this]; omega
        · simp only [szVs, Nat.add_assoc])
    have k2 := tloop_list (b := seinekeep_Size_l2T v) v.m (fun k (a : Nat) => ((a : Int), (k : Int))) (fun r a => ((a + szMs r : Nat) : Int)) (fun k a => a + szMs (v.m.drop k) ≤ 1 + v.s.length + szVs v.l + szMs v.m)
      (by
        intro a _
        simp [seinekeep_Size_l2T, szMs])
      (by
        intro k x r a hk hx hd hI
        have hxm : x ∈ v.m := List.mem_of_getElem? hx
        have h1 := szMs_mem hxm
        have h1' := szM_eq x
        have h2 := ih (by omega) x.v (by omega)
        rw [hd] at hI
        simp only [szMs] at hI
        have e1 : (decide ((k : Int) < (List.length v.m : Int))) = true := by simp; omega
        have e3 : IntKind.wrap .i64 ((k : Int) + 1) = ((k + 1 : Nat) : Int) := wadd (by omega)
        have e5 : IntKind.wrap .i64 ((a : Int) + (x.name.length : Int)) = ((a + x.name.length : Nat) : Int) := by rw [wi (by omega)]; omega
        have e4 : IntKind.wrap .i64 (((a + x.name.length : Nat) : Int) + (szV x.v : Int)) = ((a + szM x : Nat) : Int) := by rw [wi (by omega)]; omega
        refine .inr ⟨a + szM x, ?_, ?_, ?_⟩
        · simp only [seinekeep_Size_l2T, e1, cnd_t, nthI_nat, hx, bnd_s, h2, e3, e4, e5]
        · have : v.m.drop (k + 1) = r := by rw [← List.tail_drop, hd]; rfl
          rw [this]; omega
        · simp only [szMs, Nat.add_assoc])
    have e0 : IntKind.wrap .i64 (1 + (v.s.length : Int)) = ((1 + v.s.length : Nat) : Int) := by rw [wi (by omega)]; omega
    rw [e0, show (0 : Int) = ((0 : Nat) : Int) from rfl, k1 0 (1 + v.s.length) (by omega) (by simp)]
    simp only [List.drop_zero, bnd_s]
    rw [k2 0 (1 + v.s.length + szVs v.l) (by omega) (by simp)]
    simp only [List.drop_zero, bnd_s, hv]
theorem seinekeep_Size_ok (v : GValue) (h : szV v < 4611686018427387904) : seinekeep_Size v = some (szV v : Int) := seinekeep_Size_ok' _ h v (Nat.le_refl _)
mutual
theorem szV_bk : ∀ v : GValue, szV v ≤ bkValue v
  | ⟨_, _, s, l, m⟩ => by
    have h1 := szVs_bk l
    have h2 := szMs_bk m
    simp only [szV, bkValue, bk1, bkStr]; omega
theorem szVs_bk : ∀ l : List GValue, szVs l ≤ bkValues l
  | [] => by simp [szVs]
  | x :: l => by have := szV_bk x; have := szVs_bk l; simp only [szVs, bkValues]; omega
theorem szM_bk : ∀ x : GMember, szM x ≤ bkMember x
  | ⟨n, v⟩ => by have := szV_bk v; simp only [szM, bkMember, bkStr]; omega
theorem szMs_bk : ∀ l : List GMember, szMs l ≤ bkMembers l
  | [] => by simp [szMs]
  | x :: l => by have := szM_bk x; have := szMs_bk l; simp only [szMs, bkMembers]; omega
end
end Go.Proofs.Ytgelaiohnmpjnaa

/-
  A value is the same as itself.
-/
set_option linter.unusedVariables false
set_option linter.unusedSimpArgs false
open Go Go.Ev
namespace Go.Proofs.Ytgelaiohnmpjnaa

/-! a value is the same as itself -/
end Go.Proofs.Ytgelaiohnmpjnaa

/-
  Layer 4, wrap: the typed functions as plain ones.
-/
set_option linter.unusedVariables false
set_option linter.unusedSimpArgs false
open Go Go.Ev
namespace Go.Proofs.Ytgelaiohnmpjnaa

/-- Numbers as the model holds them, a name that is not endless. -/
def TOk (t : GType) : Prop := (-9223372036854775808 ≤ t.lists ∧ t.lists ≤ 9223372036854775807) ∧ (-9223372036854775808 ≤ t.musts ∧ t.musts ≤ 9223372036854775807) ∧ t.name.length < 4611686018427387904
def rightT (t : GType) : Bool := isName t.name && (decide (0 ≤ t.lists) && (decide (t.lists ≤ 4) && (decide (0 ≤ t.musts) && decide (t.musts < 2 ^ (t.lists.toNat + 1)))))
theorem rightT_iff (t : GType) : rightT t = true ↔ isName t.name = true ∧ 0 ≤ t.lists ∧ t.lists ≤ 4 ∧ 0 ≤ t.musts ∧ t.musts < 2 ^ (t.lists.toNat + 1) := by
  simp [rightT]
theorem wrap_Right_ok (t : GType) (h : TOk t) : wrap_Right t = some (rightT t) := by
  obtain ⟨⟨h1, h2⟩, ⟨h3, h4⟩, h5⟩ := h
  apply wrap_Right_run
  simp only [wrap_Right_B, letters_Name_ok _ h5, bnd_s, ge_iff_le]
  unfold rightT
  cases isName t.name
  · rfl
  · by_cases hl : 0 ≤ t.lists
    · by_cases hl4 : t.lists ≤ 4
      · by_cases hm : 0 ≤ t.musts
        · have e1 : IntKind.wrap .i64 (t.lists + 1) = t.lists + 1 := wi (by omega)
          have e2 : (t.lists + 1).toNat = t.lists.toNat + 1 := by omega
          have e3 : min (t.lists.toNat + 1) 64 = t.lists.toNat + 1 := by omega
          simp only [hl, hl4, hm, decide_true, cnd_t, e1, tshr, if_neg (show ¬ (t.lists + 1 < 0) by omega), bnd_s, IntKind.bits, e2, e3, Bool.true_and]
          congr 1
          rw [Bool.eq_iff_iff]
          simp only [beq_iff_eq, decide_eq_true_eq]
          have hp : (0 : Int) < 2 ^ (t.lists.toNat + 1) := Int.pow_pos (by decide)
          rw [Int.fdiv_eq_ediv_of_nonneg _ (Int.le_of_lt hp)]
          constructor
          · intro h; 
            have := Int.lt_ediv_add_one_mul_self t.musts hp
            rw [h] at this; simpa using this
          · intro h; exact Int.ediv_eq_zero_of_lt hm h
        · simp [hl, hl4, hm]
      · simp [hl, hl4]
    · simp [hl]
theorem seineref1_RightType_ok (t : GType) (h : TOk t) : seineref1_RightType t = some (rightT t) := by
  obtain ⟨⟨h1, h2⟩, ⟨h3, h4⟩, h5⟩ := h
  apply seineref1_RightType_run
  simp only [seineref1_RightType_B, seineref1_Name_ok _ h5, bnd_s, ge_iff_le]
  unfold rightT
  cases isName t.name
  · rfl
  · by_cases hl : 0 ≤ t.lists
    · by_cases hl4 : t.lists ≤ 4
      · by_cases hm : 0 ≤ t.musts
        · have e1 : IntKind.wrap .u64 t.lists = t.lists := by rw [wu]; omega
          have e3 : min t.lists.toNat 64 = t.lists.toNat := by omega
          have hc : t.lists.toNat = 0 ∨ t.lists.toNat = 1 ∨ t.lists.toNat = 2 ∨ t.lists.toNat = 3 ∨ t.lists.toNat = 4 := by omega
          have e4 : IntKind.wrap .i64 (2 * 2 ^ t.lists.toNat) = 2 ^ (t.lists.toNat + 1) := by
            rcases hc with h | h | h | h | h <;> rw [h] <;> rfl
          simp only [hl, hl4, hm, decide_true, cnd_t, e1, tshl, if_neg (show ¬ (t.lists < 0) by omega), bnd_s, IntKind.bits, e3, e4, Bool.true_and]
        · simp [hl, hl4, hm]
      · simp [hl, hl4]
    · simp [hl]
def bit0 (n : Int) : Bool := bits .and .i64 n 1 == 1
def isT (t : GType) : Bool := rightT t && bit0 t.musts
def bareT (t : GType) : GType := bif rightT t then ⟨t.name, t.lists, bits .andNot .i64 t.musts 1⟩ else t
def mustT (t : GType) : GType := bif rightT t then ⟨t.name, t.lists, bits .or .i64 t.musts 1⟩ else t
def subT (a b : GType) : Bool := rightT a && (rightT b && (a.name == b.name && (a.lists == b.lists && bits .andNot .i64 b.musts a.musts == 0)))
theorem wrap_Sub_ok (a b : GType) (ha : TOk a) (hb : TOk b) : wrap_Sub a b = some (subT a b) := by
  apply wrap_Sub_run
  simp only [wrap_Sub_B, wrap_Right_ok a ha, wrap_Right_ok b hb, bnd_s, subT]
  cases rightT a <;> cases rightT b <;> cases a.name == b.name <;> cases a.lists == b.lists <;> rfl
theorem seineref1_SubType_ok (a b : GType) (ha : TOk a) (hb : TOk b) : seineref1_SubType a b = some (subT a b) := by
  apply seineref1_SubType_run
  simp only [seineref1_SubType_B, seineref1_RightType_ok a ha, seineref1_RightType_ok b hb, bnd_s, subT]
  cases rightT a <;> cases rightT b <;> cases a.name == b.name <;> cases a.lists == b.lists <;> rfl
theorem bits_range (op : BinOp) (a b : Int) : -9223372036854775808 ≤ bits op .i64 a b ∧ bits op .i64 a b ≤ 9223372036854775807 := by
  have key : ∀ n : Int, -9223372036854775808 ≤ IntKind.wrap .i64 n ∧ IntKind.wrap .i64 n ≤ 9223372036854775807 := by
    intro n; rw [IntKind.wrap_i64]; omega
  unfold bits
  cases op <;> exact key _
theorem TOk.bare {t : GType} (h : TOk t) : TOk (bareT t) := by
  unfold bareT
  cases rightT t
  · exact h
  · show TOk ⟨t.name, t.lists, bits .andNot .i64 t.musts 1⟩
    exact ⟨h.1, bits_range .andNot t.musts 1, h.2.2⟩
theorem TOk.must {t : GType} (h : TOk t) : TOk (mustT t) := by
  unfold mustT
  cases rightT t
  · exact h
  · show TOk ⟨t.name, t.lists, bits .or .i64 t.musts 1⟩
    exact ⟨h.1, bits_range .or t.musts 1, h.2.2⟩

theorem small_bits : ∀ (l : Fin 5) (m : Fin 32), m.val < 2 ^ (l.val + 1) →
    (0 ≤ bits .or .i64 (m.val : Int) 1 ∧ bits .or .i64 (m.val : Int) 1 < 2 ^ (l.val + 1)) ∧ (0 ≤ bits .andNot .i64 (m.val : Int) 1 ∧ bits .andNot .i64 (m.val : Int) 1 < 2 ^ (l.val + 1)) ∧
    bit0 (bits .or .i64 (m.val : Int) 1) = true ∧ bits .andNot .i64 (bits .andNot .i64 (m.val : Int) 1) (bits .or .i64 (m.val : Int) 1) = 0 ∧
    bits .andNot .i64 (m.val : Int) (m.val : Int) = 0 ∧ bits .andNot .i64 (bits .or .i64 (m.val : Int) 1) (bits .or .i64 (m.val : Int) 1) = 0 := by decide +kernel
theorem right_bits {t : GType} (h : rightT t = true) : rightT ⟨t.name, t.lists, bits .or .i64 t.musts 1⟩ = true ∧ rightT ⟨t.name, t.lists, bits .andNot .i64 t.musts 1⟩ = true ∧ bit0 (bits .or .i64 t.musts 1) = true ∧
    bits .andNot .i64 (bits .andNot .i64 t.musts 1) (bits .or .i64 t.musts 1) = 0 ∧ bits .andNot .i64 t.musts t.musts = 0 ∧ bits .andNot .i64 (bits .or .i64 t.musts 1) (bits .or .i64 t.musts 1) = 0 := by
  obtain ⟨h1, h2, h3, h4, h5⟩ := (rightT_iff t).1 h
  obtain ⟨l, hl⟩ := Int.eq_ofNat_of_zero_le h2
  obtain ⟨m, hm⟩ := Int.eq_ofNat_of_zero_le h4
  rw [hl] at h3 h5
  rw [hm] at h5
  simp only [Int.toNat_natCast] at h5
  have h5' : m < 2 ^ (l + 1) := by exact_mod_cast h5
  have hl5 : l < 5 := by omega
  have hm5 : m < 32 := Nat.lt_of_lt_of_le h5' (by
    have : 2 ^ (l + 1) ≤ 2 ^ 5 := Nat.pow_le_pow_right (by decide) (by omega)
    exact this)
  obtain ⟨k1, k2, k3, k4, k5, k6⟩ := small_bits ⟨l, hl5⟩ ⟨m, hm5⟩ h5'
  simp only at k1 k2 k3 k4 k5 k6
  simp only [rightT_iff, hl, hm, Int.toNat_natCast]
  exact ⟨⟨h1, by omega, by omega, k1⟩, ⟨h1, by omega, by omega, k2⟩, k3, k4, k5, k6⟩
end Go.Proofs.Ytgelaiohnmpjnaa

/-
  Layer 9, defs: the typed functions of the program and of the reference as plain ones.
-/
set_option linter.unusedVariables false
set_option linter.unusedSimpArgs false
open Go Go.Ev
namespace Go.Proofs.Ytgelaiohnmpjnaa

/-! lists of texts, of numbers -/
theorem slices_Index_string_ok (l : List Str) (v : Str) (hl : Sm l) : ∃ i, slices_Index_string_string l v = some i ∧ decide (i ≥ 0) = l.contains v := by
  have key := loop_list (b := slices_Index_string_string_l1T l v) l (fun k (_ : Nat) => (k : Int)) (fun r k => match r.findIdx? (fun y => v == y) with | some j => Sum.inr ((k + j : Nat) : Int) | none => Sum.inl ()) (fun k a => a = k) hl
    (by intro a _; simp [slices_Index_string_string_l1T])
    (by
      intro k x r a hm hk hd h1 h2 h3 hI
      subst hI
      simp only [slices_Index_string_string_l1T, h1, cnd_t, h2, bnd_s, h3, List.findIdx?_cons]
      cases hv : v == x
      · refine .inr ⟨a + 1, rfl, rfl, ?_⟩
        simp only [Bool.false_eq_true, if_false]
        cases r.findIdx? (fun y => v == y) with
        | none => rfl
        | some j => simp only [Option.map_some]; congr 2; omega
      · left; simp) (s := 0) (a := 0) rfl rfl
  have hrun : ∀ i, slices_Index_string_string_B l v = some i → slices_Index_string_string l v = some i := fun i h => slices_Index_string_string_run h
  unfold slices_Index_string_string_B at hrun
  rw [key] at hrun
  simp only [bnd_s, Nat.zero_add] at hrun
  have hc : l.contains v = (l.findIdx? (fun y => v == y)).isSome := by
    rw [List.findIdx?_isSome, List.contains_eq_any_beq]
  cases hf : l.findIdx? (fun y => v == y) with
  | none => rw [hf] at hrun hc; exact ⟨-1, hrun _ rfl, by rw [hc]; rfl⟩
  | some j => rw [hf] at hrun hc; exact ⟨(j : Int), hrun _ rfl, by rw [hc]; simp⟩
theorem slices_Contains_string_ok (l : List Str) (v : Str) (hl : Sm l) : slices_Contains_string_string l v = some (l.contains v) := by
  obtain ⟨i, h1, h2⟩ := slices_Index_string_ok l v hl
  apply slices_Contains_string_string_run
  simp only [slices_Contains_string_string_B, h1, bnd_s, h2]
theorem slices_Index_int_ok (l : List Int) (v : Int) (hl : Sm l) : ∃ i, slices_Index_int_int l v = some i ∧ decide (i ≥ 0) = l.contains v := by
  have key := loop_list (b := slices_Index_int_int_l1T l v) l (fun k (_ : Nat) => (k : Int)) (fun r k => match r.findIdx? (fun y => v == y) with | some j => Sum.inr ((k + j : Nat) : Int) | none => Sum.inl ()) (fun k a => a = k) hl
    (by intro a _; simp [slices_Index_int_int_l1T])
    (by
      intro k x r a hm hk hd h1 h2 h3 hI
      subst hI
      simp only [slices_Index_int_int_l1T, h1, cnd_t, h2, bnd_s, h3, List.findIdx?_cons]
      cases hv : v == x
      · refine .inr ⟨a + 1, rfl, rfl, ?_⟩
        simp only [Bool.false_eq_true, if_false]
        cases r.findIdx? (fun y => v == y) with
        | none => rfl
        | some j => simp only [Option.map_some]; congr 2; omega
      · left; simp) (s := 0) (a := 0) rfl rfl
  have hrun : ∀ i, slices_Index_int_int_B l v = some i → slices_Index_int_int l v = some i := fun i h => slices_Index_int_int_run h
  unfold slices_Index_int_int_B at hrun
  rw [key] at hrun
  simp only [bnd_s, Nat.zero_add] at hrun
  have hc : l.contains v = (l.findIdx? (fun y => v == y)).isSome := by
    rw [List.findIdx?_isSome, List.contains_eq_any_beq]
  cases hf : l.findIdx? (fun y => v == y) with
  | none => rw [hf] at hrun hc; exact ⟨-1, hrun _ rfl, by rw [hc]; rfl⟩
  | some j => rw [hf] at hrun hc; exact ⟨(j : Int), hrun _ rfl, by rw [hc]; simp⟩
theorem slices_Contains_int_ok (l : List Int) (v : Int) (hl : Sm l) : slices_Contains_int_int l v = some (l.contains v) := by
  obtain ⟨i, h1, h2⟩ := slices_Index_int_ok l v hl
  apply slices_Contains_int_int_run
  simp only [slices_Contains_int_int_B, h1, bnd_s, h2]
theorem seineref1_Has_ok (l : List Str) (v : Str) (hl : Sm l) : seineref1_Has l v = some (l.contains v) := by
  apply seineref1_Has_run
  unfold seineref1_Has_B
  rw [loop_idx (b := seineref1_Has_l1T l v) l (fun r => bif r.contains v then .inr () else .inl ()) hl (by simp [seineref1_Has_l1T]) (by
    intro k x r hm h1 h2 h3
    simp only [seineref1_Has_l1T, h1, cnd_t, h2, bnd_s, h3, List.contains_cons]
    rw [BEq.comm (a := x) (b := v)]
    cases v == x
    · right; simp
    · left; simp)]
  cases l.contains v <;> rfl

/-! definitions -/
abbrev zDef : GDef := ⟨0, [], [], [], [], []⟩
def scalarN (n : Str) : Bool := n == [73, 110, 116] || (n == [83, 116, 114, 105, 110, 103] || (n == [66, 111, 111, 108, 101, 97, 110] || n == [73, 68]))
theorem defs_scalar_ok (n : Str) : defs_scalar n = some (scalarN n) := by
  apply defs_scalar_run
  simp only [defs_scalar_B, scalarN]
  cases n == [73, 110, 116] <;> cases n == [83, 116, 114, 105, 110, 103] <;> cases n == [66, 111, 111, 108, 101, 97, 110] <;> rfl
theorem seineref9_scalar_ok (n : Str) : seineref9_scalar n = some (scalarN n) := by
  apply seineref9_scalar_run
  simp only [seineref9_scalar_B, scalarN]
  cases n == [73, 110, 116] <;> cases n == [83, 116, 114, 105, 110, 103] <;> cases n == [66, 111, 111, 108, 101, 97, 110] <;> rfl
def findD (s : GSchema) (n : Str) : GDef × Bool := bif scalarN n then (⟨0, n, [], [], [], []⟩, true) else match s.defs.find? (fun d => d.name == n) with | some d => (d, true) | none => (zDef, false)
theorem find_some {α : Type} (l : List α) (p : α → Bool) {β : Type} (g : α → β) : l.findSome? (fun x => if p x then some (g x) else none) = (l.find? p).map g := by
  induction l with
  | nil => rfl
  | cons a l ih =>
    rw [List.findSome?_cons, List.find?_cons]
    cases p a with
    | true => rfl
    | false => exact ih
theorem defs_Find_ok (s : GSchema) (n : Str) (hl : Sm s.defs) : defs_Find s n = some (findD s n) := by
  apply defs_Find_run
  unfold defs_Find_B findD
  rw [loop_find (b := defs_Find_l1T s n) s.defs (fun d => if (d.name == n) = true then some (.inr (d.kind, d.name, d.faces, d.fields, d.parts, d.params)) else none) (.inl ()) hl (by simp [defs_Find_l1T]) (by
    intro k x hm h1 h2 h3
    simp only [defs_Find_l1T, h1, cnd_t, h2, bnd_s, h3]
    cases x.name == n <;> rfl)]
  rw [find_some, defs_scalar_ok]
  cases scalarN n
  · simp only [bnd_s, cnd_f, cond_false]
    cases s.defs.find? (fun d => d.name == n) <;> rfl
  · rfl
theorem seineref9_Find_ok (s : GSchema) (n : Str) (hl : Sm s.defs) : seineref9_Find s n = some (findD s n) := by
  apply seineref9_Find_run
  unfold seineref9_Find_B findD
  rw [loop_find (b := seineref9_Find_l1T s n) s.defs (fun d => if (d.name == n) = true then some (.inr (d.kind, d.name, d.faces, d.fields, d.parts, d.params)) else none) (.inl ()) hl (by simp [seineref9_Find_l1T]) (by
    intro k x hm h1 h2 h3
    simp only [seineref9_Find_l1T, h1, cnd_t, h2, bnd_s, h3]
    cases x.name == n <;> rfl)]
  rw [find_some, seineref9_scalar_ok]
  cases scalarN n
  · simp only [bnd_s, cnd_f, cond_false]
    cases s.defs.find? (fun d => d.name == n) <;> rfl
  · rfl
def kindD (s : GSchema) (n : Str) (ks : List Int) : Bool := (findD s n).2 && ks.contains (findD s n).1.kind
theorem defs_Kind_ok (s : GSchema) (n : Str) (ks : List Int) (hl : Sm s.defs) (hk : Sm ks) : defs_Kind s n ks = some (kindD s n ks) := by
  apply defs_Kind_run
  simp only [defs_Kind_B, defs_Find_ok s n hl, bnd_s, slices_Contains_int_ok ks _ hk, kindD]
  cases (findD s n).2 <;> rfl
theorem seineref9_is_ok (s : GSchema) (n : Str) (a b c : Int) (hl : Sm s.defs) : seineref9_is s n a b c = some (kindD s n [a, b, c]) := by
  apply seineref9_is_run
  simp only [seineref9_is_B, seineref9_Find_ok s n hl, bnd_s, kindD]
  have : [a, b, c].contains (findD s n).1.kind = ((findD s n).1.kind == a || ((findD s n).1.kind == b || (findD s n).1.kind == c)) := by
    simp only [List.contains_cons, List.contains_nil, Bool.or_false]
  rw [this]
  cases (findD s n).2 <;> cases (findD s n).1.kind == a <;> cases (findD s n).1.kind == b <;> rfl
theorem kindD_two (s : GSchema) (n : Str) (a b : Int) : kindD s n [a, b, b] = kindD s n [a, b] := by
  simp only [kindD, List.contains_cons, List.contains_nil, Bool.or_false, Bool.or_self]
theorem kindD_one (s : GSchema) (n : Str) (a : Int) : kindD s n [a, a, a] = kindD s n [a] := by
  simp only [kindD, List.contains_cons, List.contains_nil, Bool.or_false, Bool.or_self]
theorem seineref9_Object_ok (s : GSchema) (n : Str) (hl : Sm s.defs) : seineref9_Object s n = some (kindD s n [1]) :=
  seineref9_Object_run (by simp [seineref9_Object_B, seineref9_is_ok s n _ _ _ hl, kindD_one])

/-! what is possible -/
def addD (l : List Str) (n : Str) : List Str := bif l.contains n then l else l ++ [n]
theorem addD_len (l : List Str) (n : Str) : (addD l n).length ≤ l.length + 1 := by
  unfold addD; cases l.contains n <;> simp
theorem defs_add_ok (l : List Str) (n : Str) (hl : l.length < 1073741824) : defs_add l n = some (addD l n) := by
  apply defs_add_run
  simp only [defs_add_B, slices_Contains_string_ok l n (by show l.length < _; omega), bnd_s, tapp_ok (show l.length + [n].length ≤ lim by simp [lim_val]; omega), addD]
  cases l.contains n <;> rfl
def possD (s : GSchema) (n : Str) : List Str :=
  bif !(findD s n).2 then [] else bif (findD s n).1.kind == 1 then [n] else
  bif (findD s n).1.kind == 2 then s.defs.foldl (fun l x => bif x.kind == 1 && x.faces.contains n then addD l x.name else l) [] else
  bif (findD s n).1.kind == 3 then (findD s n).1.parts.foldl (fun l p => bif kindD s p [1] then addD l p else l) [] else []
/-- Short enough. -/
structure SOk (s : GSchema) : Prop where
  bk : bkSchema s < 1073741824
theorem bkDef_pos (d : GDef) : 1 ≤ bkDef d := by rw [bkDef_eq]; omega
theorem bkFieldDef_pos (d : GFieldDef) : 1 ≤ bkFieldDef d := by rw [bkFieldDef_eq]; omega
theorem bkParam_pos (d : GParam) : 1 ≤ bkParam d := by rw [bkParam_eq]; omega
theorem bkDir_pos (d : GDir) : 1 ≤ bkDir d := by rw [bkDir_eq]; omega
theorem bkMember_pos (d : GMember) : 1 ≤ bkMember d := by rw [bkMember_eq]; omega
theorem SOk.defs {s : GSchema} (h : SOk s) : s.defs.length < 1073741824 := by
  have h1 := h.bk; rw [bkSchema_eq] at h1
  have h2 := sl_len bkDef_pos s.defs
  omega
theorem SOk.def_bk {s : GSchema} (h : SOk s) {d : GDef} (hd : d ∈ s.defs) : bkDef d < 1073741824 := by
  have h1 := h.bk; rw [bkSchema_eq] at h1
  have h2 := sl_mem (f := bkDef) hd
  omega
theorem SOk.faces {s : GSchema} (h : SOk s) (d : GDef) (hd : d ∈ s.defs) : d.faces.length < 1073741824 := by
  have h1 := h.def_bk hd; rw [bkDef_eq] at h1
  have h2 := sl_len bkStr_pos d.faces
  omega
theorem SOk.parts {s : GSchema} (h : SOk s) (d : GDef) (hd : d ∈ s.defs) : d.parts.length < 1073741824 := by
  have h1 := h.def_bk hd; rw [bkDef_eq] at h1
  have h2 := sl_len bkStr_pos d.parts
  omega
theorem SOk.fields {s : GSchema} (h : SOk s) (d : GDef) (hd : d ∈ s.defs) : d.fields.length < 1073741824 := by
  have h1 := h.def_bk hd; rw [bkDef_eq] at h1
  have h2 := sl_len bkFieldDef_pos d.fields
  omega
theorem SOk.sm {s : GSchema} (h : SOk s) : Sm s.defs := by have := h.defs; show s.defs.length < _; omega
theorem findD_mem (s : GSchema) (n : Str) : (findD s n).1 ∈ s.defs ∨ ((findD s n).1.faces = [] ∧ (findD s n).1.fields = [] ∧ (findD s n).1.parts = [] ∧ (findD s n).1.params = []) := by
  unfold findD
  cases scalarN n
  · simp only [cond_false]
    cases h : s.defs.find? (fun d => d.name == n) with
    | none => exact .inr ⟨rfl, rfl, rfl, rfl⟩
    | some d => exact .inl (List.mem_of_find?_eq_some h)
  · exact .inr ⟨rfl, rfl, rfl, rfl⟩
theorem SOk.partsF {s : GSchema} (h : SOk s) (n : Str) : (findD s n).1.parts.length < 1073741824 := by
  rcases findD_mem s n with hm | ⟨_, _, hp, _⟩
  · exact h.parts _ hm
  · rw [hp]; decide
theorem SOk.fieldsF {s : GSchema} (h : SOk s) (n : Str) : (findD s n).1.fields.length < 1073741824 := by
  rcases findD_mem s n with hm | ⟨_, hp, _, _⟩
  · exact h.fields _ hm
  · rw [hp]; decide
theorem defs_Possible_ok (s : GSchema) (n : Str) (h : SOk s) : defs_Possible s n = some (possD s n) := by
  apply defs_Possible_run
  have hs := h.sm
  have hd := h.defs
  have hp := h.partsF n
  have k1 := loop_fold (b := defs_Possible_l1T s n) s.defs (fun k (a : List Str) => (a, (k : Int))) (fun l x => bif x.kind == 1 && x.faces.contains n then addD l x.name else l) id (fun k a => a.length ≤ k) hs
    (by intro a _; simp [defs_Possible_l1T])
    (by
      intro k x a hm hk h1 h2 h3 hI
      simp only [defs_Possible_l1T, h1, cnd_t, h2, bnd_s, h3, slices_Contains_string_ok x.faces n (by have := h.faces x hm; show x.faces.length < _; omega), defs_add_ok a x.name (by omega)]
      cases x.kind == 1
      · exact ⟨rfl, by simp only [Bool.false_and, cond_false]; omega⟩
      · cases x.faces.contains n
        · exact ⟨rfl, by simp only [Bool.and_false, cond_false]; omega⟩
        · exact ⟨rfl, by simp only [Bool.and_self, cond_true]; have := addD_len a x.name; omega⟩) (s := ([], 0)) (a := []) rfl (by simp)
  have k2 := loop_fold (b := defs_Possible_l2T s (findD s n)) (findD s n).1.parts (fun k (a : List Str) => (a, (k : Int))) (fun l p => bif kindD s p [1] then addD l p else l) id (fun k a => a.length ≤ k) (by show (findD s n).1.parts.length < _; omega)
    (by intro a _; simp [defs_Possible_l2T])
    (by
      intro k x a hm hk h1 h2 h3 hI
      simp only [defs_Possible_l2T, h1, cnd_t, h2, bnd_s, h3, defs_Kind_ok s x [1] hs (by decide), defs_add_ok a x (by omega)]
      cases kindD s x [1]
      · exact ⟨rfl, by simp only [cond_false]; omega⟩
      · exact ⟨rfl, by simp only [cond_true]; have := addD_len a x; omega⟩) (s := ([], 0)) (a := []) rfl (by simp)
  simp only [defs_Possible_B, defs_Find_ok s n hs, bnd_s, k1, k2, possD, id]
  cases (findD s n).2 <;> cases (findD s n).1.kind == 1 <;> cases (findD s n).1.kind == 2 <;> cases (findD s n).1.kind == 3 <;> rfl
theorem seineref9_Possible_ok (s : GSchema) (n : Str) (h : SOk s) : seineref9_Possible s n = some (possD s n) := by
  apply seineref9_Possible_run
  have hs := h.sm
  have hd := h.defs
  have hp := h.partsF n
  have ta : ∀ (a : List Str) (x : Str), a.length < 1073741824 → tapp a [x] = some (a ++ [x]) := fun a x ha => tapp_ok (by simp [lim_val]; omega)
  have k1 := loop_fold (b := seineref9_Possible_l1T s n) s.defs (fun k (a : List Str) => (a, (k : Int))) (fun l x => bif x.kind == 1 && x.faces.contains n then addD l x.name else l) id (fun k a => a.length ≤ k) hs
    (by intro a _; simp [seineref9_Possible_l1T])
    (by
      intro k x a hm hk h1 h2 h3 hI
      simp only [seineref9_Possible_l1T, h1, cnd_t, h2, bnd_s, h3, seineref1_Has_ok x.faces n (by have := h.faces x hm; show x.faces.length < _; omega), seineref1_Has_ok a x.name (by show a.length < _; omega), ta a x.name (by omega)]
      cases x.kind == 1
      · exact ⟨rfl, by simp only [Bool.false_and, cond_false]; omega⟩
      · cases x.faces.contains n
        · exact ⟨rfl, by simp only [Bool.and_false, cond_false]; omega⟩
        · unfold addD
          cases a.contains x.name
          · exact ⟨rfl, by simp; omega⟩
          · exact ⟨rfl, by simp; omega⟩) (s := ([], 0)) (a := []) rfl (by simp)
  have k2 := loop_fold (b := seineref9_Possible_l2T s (findD s n)) (findD s n).1.parts (fun k (a : List Str) => (a, (k : Int))) (fun l p => bif kindD s p [1] then addD l p else l) id (fun k a => a.length ≤ k) (by show (findD s n).1.parts.length < _; omega)
    (by intro a _; simp [seineref9_Possible_l2T])
    (by
      intro k x a hm hk h1 h2 h3 hI
      simp only [seineref9_Possible_l2T, h1, cnd_t, h2, bnd_s, h3, seineref9_Object_ok s x hs, seineref1_Has_ok a x (by show a.length < _; omega), ta a x (by omega)]
      cases kindD s x [1]
      · exact ⟨rfl, by simp only [cond_false]; omega⟩
      · unfold addD
        cases a.contains x
        · exact ⟨rfl, by simp; omega⟩
        · exact ⟨rfl, by simp; omega⟩) (s := ([], 0)) (a := []) rfl (by simp)
  simp only [seineref9_Possible_B, seineref9_Find_ok s n hs, bnd_s, k1, k2, possD, id, show tapp ([] : List Str) [n] = some [n] from rfl]
  cases (findD s n).2 <;> cases (findD s n).1.kind == 1 <;> cases (findD s n).1.kind == 2 <;> cases (findD s n).1.kind == 3 <;> rfl
end Go.Proofs.Ytgelaiohnmpjnaa

/-
  Layer 9, defs: fields, meeting; copies and likenesses of schemas.
-/
set_option linter.unusedVariables false
set_option linter.unusedSimpArgs false
open Go Go.Ev
namespace Go.Proofs.Ytgelaiohnmpjnaa

abbrev zF : GFieldDef := ⟨[], [], ⟨[], 0, 0⟩, []⟩
abbrev tnS : Str := [95, 95, 116, 121, 112, 101, 110, 97, 109, 101]
abbrev tnF : GFieldDef := ⟨tnS, [], ⟨[83, 116, 114, 105, 110, 103], 0, 1⟩, []⟩
def fieldD (s : GSchema) (typ name : Str) : GFieldDef × Bool :=
  bif name == tnS && kindD s typ [1, 2, 3] then (tnF, true) else bif (findD s typ).1.kind == 1 || (findD s typ).1.kind == 2 then (match (findD s typ).1.fields.find? (fun f => f.name == name) with | some f => (f, true) | none => (zF, false)) else (zF, false)
theorem findD_none {s : GSchema} {n : Str} (h : (findD s n).2 = false) : (findD s n).1 = zDef := by
  revert h
  unfold findD
  cases scalarN n
  · simp only [cond_false]
    cases hf : s.defs.find? (fun d => d.name == n) with
    | none => intro _; rfl
    | some d => intro h; simp at h
  · intro h; simp at h
theorem fieldEta (f : GFieldDef) : (⟨f.name, f.params, ⟨f.t.name, f.t.lists, f.t.musts⟩, f.dirs⟩ : GFieldDef) = f := rfl
/-! meeting -/
theorem foldl_add_len {α : Type} (c : α → Bool) (f : α → Str) : ∀ (l : List α) (a : List Str), (l.foldl (fun l x => bif c x then addD l (f x) else l) a).length ≤ a.length + l.length
  | [], a => by simp
  | x :: l, a => by
    have := foldl_add_len c f l (bif c x then addD a (f x) else a)
    have h2 := addD_len a (f x)
    rw [List.foldl_cons, List.length_cons]
    cases hc : c x <;> rw [hc] at this <;> simp only [cond_true, cond_false] at this ⊢ <;> omega
theorem possD_len (s : GSchema) (n : Str) (h : SOk s) : (possD s n).length < 1073741824 := by
  have h1 := h.defs
  have h2 := h.partsF n
  have h3 := foldl_add_len (fun x : GDef => x.kind == 1 && x.faces.contains n) (fun x => x.name) s.defs []
  have h4 := foldl_add_len (fun p : Str => kindD s p [1]) (fun p => p) (findD s n).1.parts []
  simp only [List.length_nil, Nat.zero_add] at h3 h4
  unfold possD
  cases (findD s n).2 <;> cases (findD s n).1.kind == 1 <;> cases (findD s n).1.kind == 2 <;> cases (findD s n).1.kind == 3 <;> simp only [Bool.not_true, Bool.not_false, cond_true, cond_false, List.length_nil, List.length_singleton] <;> omega
def meetsD (s : GSchema) (a b : Str) : Bool := (possD s a).any fun x => (possD s b).contains x
theorem meetsD_comm (s : GSchema) (a b : Str) : meetsD s a b = meetsD s b a := by
  unfold meetsD
  rw [Bool.eq_iff_iff]
  simp only [List.any_eq_true, List.contains_iff_mem]
  constructor <;> rintro ⟨x, h1, h2⟩ <;> exact ⟨x, h2, h1⟩
theorem meetsD_self (s : GSchema) (a : Str) : meetsD s a a = decide (((possD s a).length : Int) > 0) := by
  unfold meetsD
  cases h : possD s a with
  | nil => rfl
  | cons x l => simp
end Go.Proofs.Ytgelaiohnmpjnaa

/-
  Copies are what they are copies of; what is like is like itself; how light a schema is, is told.
-/
set_option linter.unusedVariables false
set_option linter.unusedSimpArgs false
open Go Go.Ev
namespace Go.Proofs.Ytgelaiohnmpjnaa

/-! copies -/
theorem tapp_nil {α : Type} (l : List α) (h : l.length < 1073741824) : tapp ([] : List α) l = some l := by
  rw [tapp_ok (by simp [lim_val]; omega)]; rfl
theorem szV_mem_bk {m : List GMember} (h : bkSl bkMember m < 1073741824) {x : GMember} (hx : x ∈ m) : szV x.v < 1073741824 := by
  have h1 := sl_mem (f := bkMember) hx
  have h2 := szM_bk x
  have h3 := szM_eq x
  omega
/-! likenesses -/
/-! how light -/
theorem lightTexts_ex (l : List Str) (h : l.length < 1073741824) : ∃ n, seinelaw8_lightTexts l = some n := by
  obtain ⟨r, hr⟩ := loop_ex (b := seinelaw8_lightTexts_l1T l) l (fun k (a : Int) => (a, (k : Int))) (by show l.length < _; omega) (fun a => ⟨a, by simp [seinelaw8_lightTexts_l1T]⟩) (by
    intro k x a hx h1 h2 h3
    right; simp only [seinelaw8_lightTexts_l1T, h1, cnd_t, h2, bnd_s, h3]; exact ⟨_, rfl⟩) (s := (0, 0)) (a := 0) rfl
  exact ⟨r, seinelaw8_lightTexts_run (by simp only [seinelaw8_lightTexts_B, hr, bnd_s])⟩
theorem lightParams_ex (l : List GParam) (h : bkSl bkParam l < 1073741824) : ∃ n, seinelaw8_lightParams l = some n := by
  have hl := sl_len bkParam_pos l
  obtain ⟨r, hr⟩ := loop_ex (b := seinelaw8_lightParams_l1T l) l (fun k (a : Int) => (a, (k : Int))) (by show l.length < _; omega) (fun a => ⟨a, by simp [seinelaw8_lightParams_l1T]⟩) (by
    intro k x a hx h1 h2 h3
    have hb := sl_mem (f := bkParam) hx
    rw [bkParam_eq] at hb
    have hv := szV_bk x.default
    right; simp only [seinelaw8_lightParams_l1T, h1, cnd_t, h2, bnd_s, h3, seinekeep_Size_ok x.default (by omega)]; exact ⟨_, rfl⟩) (s := (0, 0)) (a := 0) rfl
  exact ⟨r, seinelaw8_lightParams_run (by simp only [seinelaw8_lightParams_B, hr, bnd_s])⟩
theorem lightDirs_ex (l : List GDir) (h : bkSl bkDir l < 1073741824) : ∃ n, seinelaw8_lightDirs l = some n := by
  have hl := sl_len bkDir_pos l
  obtain ⟨r, hr⟩ := loop_ex (b := seinelaw8_lightDirs_l1T l) l (fun k (a : Int) => (a, (k : Int))) (by show l.length < _; omega) (fun a => ⟨a, by simp [seinelaw8_lightDirs_l1T]⟩) (by
    intro k x a hx h1 h2 h3
    have hb := sl_mem (f := bkDir) hx
    rw [bkDir_eq] at hb
    have hv : szV ⟨0, 0, [], [], x.args⟩ < 4611686018427387904 := by
      have h4 := szMs_bk x.args
      rw [bkMembers_eq] at h4
      simp only [szV, szVs, List.length_nil]
      have h5 : bkSl bkMember x.args = sumL bkMember x.args + 1 := rfl
      omega
    right; simp only [seinelaw8_lightDirs_l1T, h1, cnd_t, h2, bnd_s, h3, seinekeep_Size_ok _ hv]; exact ⟨_, rfl⟩) (s := (0, 0)) (a := 0) rfl
  exact ⟨r, seinelaw8_lightDirs_run (by simp only [seinelaw8_lightDirs_B, hr, bnd_s])⟩
theorem seinelaw8_Light_ex (s : GSchema) (h : SOk s) : ∃ b, seinelaw8_Light s = some b := by
  obtain ⟨r, hr⟩ := loop_ex (b := seinelaw8_Light_l2T s) s.defs (fun k (a : Int) => (a, (k : Int))) h.sm (fun a => ⟨a, by simp [seinelaw8_Light_l2T]⟩) (by
    intro k d a hd h1 h2 h3
    have hb := h.def_bk hd
    rw [bkDef_eq] at hb
    obtain ⟨n1, e1⟩ := lightTexts_ex d.faces (h.faces d hd)
    obtain ⟨n2, e2⟩ := lightTexts_ex d.parts (h.parts d hd)
    obtain ⟨n3, e3⟩ := lightParams_ex d.params (by omega)
    have hin : ∀ n0 : Int, ∃ n, tloop (seinelaw8_Light_l1T d) (n0, 0) = some n := by
      intro n0
      refine loop_ex (b := seinelaw8_Light_l1T d) d.fields (fun k (a : Int) => (a, (k : Int))) (by have := h.fields d hd; show d.fields.length < _; omega) (fun a => ⟨a, by simp [seinelaw8_Light_l1T]⟩) (by
        intro k f a hf h1 h2 h3
        have hfb := sl_mem (f := bkFieldDef) hf
        rw [bkFieldDef_eq] at hfb
        obtain ⟨m1, g1⟩ := lightParams_ex f.params (by omega)
        obtain ⟨m2, g2⟩ := lightDirs_ex f.dirs (by omega)
        right; simp only [seinelaw8_Light_l1T, h1, cnd_t, h2, bnd_s, h3, g1, g2]; exact ⟨_, rfl⟩) (a := n0) rfl
    right
    simp only [seinelaw8_Light_l2T, h1, cnd_t, h2, bnd_s, h3, e1, e2, e3]
    obtain ⟨n, hn⟩ := hin (IntKind.wrap .i64 ((IntKind.wrap .i64 ((IntKind.wrap .i64 ((IntKind.wrap .i64 ((IntKind.wrap .i64 (a + 1)) + (List.length d.name : Int))) + n1)) + n2)) + n3))
    rw [hn]
    exact ⟨n, rfl⟩) (s := (0, 0)) (a := 0) rfl
  exact ⟨decide (r ≤ 4000), seinelaw8_Light_run (by simp only [seinelaw8_Light_B, hr, bnd_s])⟩
end Go.Proofs.Ytgelaiohnmpjnaa

/-
  DefsSubs, of the typed functions.
-/
set_option linter.unusedVariables false
set_option linter.unusedSimpArgs false
open Go Go.Ev
namespace Go.Proofs.Ytgelaiohnmpjnaa

theorem seinelaw9_awake_ok : seinelaw9_awake = some true := seinelaw9_awake_run 100 (by kernel_rfl)
theorem SOk.of {s : GSchema} (h : bkSchema s ≤ 1048576) : SOk s := ⟨by omega⟩
theorem possD_lenS (s : GSchema) (n : Str) (h : SOk s) : Sm (possD s n) := by have := possD_len s n h; show (possD s n).length < _; omega
theorem facesF {s : GSchema} (h : SOk s) (n : Str) : Sm (findD s n).1.faces := by
  rcases findD_mem s n with hm | ⟨hp, _⟩
  · have := h.faces _ hm; show (findD s n).1.faces.length < _; omega
  · rw [hp]; decide
def subD (s : GSchema) (a b : GType) : Bool :=
  rightT a && (subT ⟨b.name, a.lists, a.musts⟩ b && (a.name == b.name || (((findD s a.name).1.kind == 1 && (possD s b.name).contains a.name) || ((findD s a.name).1.kind == 2 && (kindD s b.name [2] && (findD s a.name).1.faces.contains b.name)))))
theorem kindD2 (s : GSchema) (n : Str) : kindD s n [2] = ((findD s n).1.kind == 2) := by
  simp only [kindD, List.contains_cons, List.contains_nil, Bool.or_false]
  cases h : (findD s n).2
  · rw [findD_none h]; rfl
  · rfl
theorem defs_Sub_ok (s : GSchema) (a b : GType) (h : SOk s) (ha : TOk a) (hb : TOk b) : defs_Sub s a b = some (subD s a b) := by
  apply defs_Sub_run
  have hx : TOk ⟨b.name, a.lists, a.musts⟩ := ⟨ha.1, ha.2.1, hb.2.2⟩
  simp only [defs_Sub_B, wrap_Right_ok a ha, wrap_Sub_ok _ b hx hb, defs_Find_ok s _ h.sm, defs_Possible_ok s _ h, slices_Contains_string_ok _ _ (possD_lenS s b.name h), slices_Contains_string_ok _ _ (facesF h a.name), defs_Kind_ok s b.name [2] h.sm (by decide), bnd_s, subD]
  cases h2 : (findD s a.name).2
  · rw [findD_none h2]
    cases rightT a <;> cases subT ⟨b.name, a.lists, a.musts⟩ b <;> cases a.name == b.name <;> rfl
  · cases rightT a <;> cases subT ⟨b.name, a.lists, a.musts⟩ b <;> cases a.name == b.name <;> cases (findD s a.name).1.kind == 1 <;> cases (possD s b.name).contains a.name <;> cases (findD s a.name).1.kind == 2 <;> cases kindD s b.name [2] <;> rfl
theorem seineref9_Sub_ok (s : GSchema) (a b : GType) (h : SOk s) (ha : TOk a) (hb : TOk b) : seineref9_Sub s a b = some (subD s a b) := by
  apply seineref9_Sub_run
  have hx : TOk ⟨b.name, a.lists, a.musts⟩ := ⟨ha.1, ha.2.1, hb.2.2⟩
  simp only [seineref9_Sub_B, seineref1_RightType_ok a ha, seineref1_SubType_ok _ b hx hb, seineref9_Find_ok s _ h.sm, seineref9_Possible_ok s _ h, seineref1_Has_ok _ _ (possD_lenS s b.name h), seineref1_Has_ok _ _ (facesF h a.name), bnd_s, subD, kindD2]
  cases rightT a <;> cases subT ⟨b.name, a.lists, a.musts⟩ b <;> cases a.name == b.name <;> cases (findD s a.name).1.kind == 1 <;> cases (possD s b.name).contains a.name <;> cases (findD s a.name).1.kind == 2 <;> cases (findD s b.name).1.kind == 2 <;> rfl
theorem subT_self (a : GType) : subT a a = rightT a := by
  unfold subT
  cases h : rightT a
  · rfl
  · simp [(right_bits h).2.2.2.2.1]
theorem seinelaw9_DefsSubs_ok (s : GSchema) (a b : GType) (h : SOk s) (ha : TOk a) (hb : TOk b) : seinelaw9_DefsSubs s a b = some true := by
  apply seinelaw9_DefsSubs_run
  obtain ⟨l, hl⟩ := seinelaw8_Light_ex s h
  have hself : subD s a a = rightT a := by
    have : (⟨a.name, a.lists, a.musts⟩ : GType) = a := rfl
    simp only [subD, this, subT_self, beq_self_eq_true, Bool.true_or, Bool.and_true, Bool.and_self]
  have hsub : subT a b = true → subD s a b = true := by
    intro h1
    have h2 := h1
    simp only [subT, Bool.and_eq_true, beq_iff_eq] at h2
    obtain ⟨g1, g2, g3, g4, g5⟩ := h2
    have : (⟨b.name, a.lists, a.musts⟩ : GType) = a := by rw [← g3]
    simp only [subD, this, h1, g1, g3, beq_self_eq_true, Bool.true_or, Bool.and_self]
  simp only [seinelaw9_DefsSubs_B, hl, bnd_s, seinelaw9_awake_ok, defs_Sub_ok s a b h ha hb, seineref9_Sub_ok s a b h ha hb, defs_Sub_ok s a a h ha ha, hself, wrap_Right_ok a ha, wrap_Sub_ok a b ha hb, beq_self_eq_true, cnd_t]
  cases h1 : subT a b
  · simp [cnd_same]
  · rw [hsub h1]; simp [cnd_same]
end Go.Proofs.Ytgelaiohnmpjnaa

/-
  What is asked of the program as a whole.
-/
set_option linter.unusedVariables false
open Go Go.Ev
open Go.ChangeShapes Go.WideShapes Go.ChangeAt Go.RowKit
namespace Go.Proofs.Ytgelaiohnmpjnaa
theorem mixed : Try.prog.follows .mixedOrders = true := by kernel_rfl
theorem names : (Try.prog.funcs.toList.all fun fn => !fn.body.isSome || !(fn.name == "runtime.NumGoroutine")) = true := by kernel_rfl
theorem laid : laidOutB Try.prog = true := by kernel_rfl
theorem pok : POk Try.prog := by
  refine ⟨mixed, fun f fn hf hb => ?_⟩
  have hm : fn ∈ Try.prog.funcs.toList := by
    have := Array.mem_of_getElem? hf
    simpa using this
  have := List.all_eq_true.1 names fn hm
  rw [hb] at this
  simpa using this
theorem xok : ExtOk Try.prog XT := fun f g h => by simp [XT] at h
theorem blOk {H : Type} : BlOk (H := H) Rows.uptoBulk Rows.uptoBulkAll := by
  refine ⟨fun l => ?_, fun s => ?_, ?_, fun es sp => ?_, fun ps => ?_, fun d r => ?_⟩
  · cases l <;> simp [Rows.uptoBulk]
  · simp [Rows.uptoBulk]
  · simp [Rows.uptoBulk]
  · simp only [Rows.uptoBulk]; omega
  · simp only [Rows.uptoBulk]; omega
  · simp [Rows.uptoBulkAll]
theorem own : ownKnob Try.prog.godebug = none := by kernel_rfl
end Go.Proofs.Ytgelaiohnmpjnaa

/-
  DefsSubs: of any schema: whether what is the one type is what the other one asks for is the page's; each type that may be is its own. Conditions: none beside the row's own (bulk at most 1048576).
-/
set_option linter.unusedVariables false
open Go Go.Ev
open Go.ChangeShapes Go.WideShapes Go.ChangeAt Go.RowKit
namespace Go.Proofs.Ytgelaiohnmpjnaa
namespace defsSubs
def fs : Ty := (.fcons (.ext 7) (.fcons (.ext 0) (.fcons (.ext 0) .fnil)))
theorem lawF : ∀ x : fs.den RS, good RS fs x → bulkL RS fs x ≤ 1048576 → OL Try.prog MT XT 5 (encL RS fs x) [] = some (.bool true, []) := by
  rintro ⟨x0, x1, x2, _⟩ g b
  have b' : bkSchema x0 + (bkType x1 + (bkType x2 + (0))) ≤ 1048576 := b
  obtain ⟨g0, g1, g2, _⟩ := g
  have g0' : gdSchema x0 := g0
  have g1' : gdType x1 := g1
  have g2' : gdType x2 := g2
  have e : encL RS fs (x0, x1, x2, ()) = [encSchema x0, encType x1, encType x2] := rfl
  rw [e]
  change O 5 _ _ = _
  have h := seinelaw9_DefsSubs_spec (seinelaw9_DefsSubs_ok x0 x1 x2 (SOk.of (by omega)) (by have g := g1'; exact ⟨gdI_i64 g.2.1, gdI_i64 g.2.2.1, by simp only [bkType_eq, bk1, bkStr] at b'; omega⟩) (by have g := g2'; exact ⟨gdI_i64 g.2.1, gdI_i64 g.2.2.1, by simp only [bkType_eq, bk1, bkStr] at b'; omega⟩))
  simpa only [tys, seinelaw9_DefsSubsE] using h
set_option maxRecDepth 100000 in
theorem contract (H : Type) (enc : TypeId × Value → H) (W : World) (base : Nat) (args : Array Value) (ds gs : List (DataW H)) (before : List MemPlace)
    (hval : ∀ (j : Nat) t v, Try.f5.params[j]? = some t → args[j]? = some v → Value.okWide Try.prog W .any base t v)
    (hW : DataW.Whole enc Try.prog Try.f5.params.toList Rows.defsSubsSpec.vars false W args.toList ds gs before) (hk : Rows.uptoSmall H (ds ++ gs) = true) :
    Calls Try.prog 5 args W fun e W' => ∃ v, e = .returned v ∧ Rows.defsSubsSpec.post enc Try.prog Try.f5 false true false false W args v W' := by
  have hg : gs = [] := by
    obtain ⟨p, q, hA, hV, _⟩ := hW
    exact (trodVars_none hV).1
  have hb : Rows.uptoBulkAll ds ≤ 1048576 := by
    have := of_decide_eq_true hk
    simpa [hg] using this
  have hlen : ds.length = 3 := by
    obtain ⟨p, q, hA0, hV, _⟩ := hW
    have hA : DataW.TrodAll enc Try.prog W 0 (fun _ => true) true Try.f5.params.toList args.toList ds p := hA0
    rw [Try.params5] at hA
    obtain ⟨v0, vs0, d0, ds0, p0, q0, h0, rfl, rfl, ht0, r0⟩ := trodAll_cons hA
    obtain ⟨v1, vs1, d1, ds1, p1, q1, h1, rfl, rfl, ht1, r1⟩ := trodAll_cons r0
    obtain ⟨v2, vs2, d2, ds2, p2, q2, h2, rfl, rfl, ht2, r2⟩ := trodAll_cons r1
    obtain ⟨rfl, rfl, rfl⟩ := trodAll_nil r2
    rfl
  refine contract_true pok xok laid blOk Try.func5 rfl (n := 9) (ρ := RS) (τ := TS) (fs := fs) (tb := 4) (by kernel_rfl) (by rw [show Try.f5.resultTypes = #[4] from rfl]) Try.underlying4 rfl (rok enc W blOk) ?_ hval hW hb lawF
  subst hg
  match ds, hlen with
  | [d0, d1, d2], _ => exact ⟨rfl, rfl, rfl⟩
set_option maxRecDepth 100000 in
theorem lifted (os : Os) (started : os.Started) (H : Type) (enc : TypeId × Value → H) (F : Stop.Interp) :
    ReturnsInHanded {} Try.checked os 5 .any ((Rows.OpenSpec.upto Rows.defsSubsSpec).pre6 enc Try.prog Try.f5 Rows.defsSubsUptoRow.domain false) (((Rows.OpenSpec.upto Rows.defsSubsSpec).at F).post enc Try.prog Try.f5 false true false false) := by
  refine returnsInHanded_of_cond (C := Try.checked) (s := Rows.OpenSpec.upto Rows.defsSubsSpec) (k := Rows.uptoSmall) rfl own started (by kernel_rfl) Try.func5
    (OpenSpec.witness (enc := enc) (C := Try.checked) (s := Rows.OpenSpec.upto Rows.defsSubsSpec) (k := Rows.uptoSmall) rfl false ⟨#[], #[.agg #[.slice none 0 0, .string ⟨#[]⟩, .string ⟨#[]⟩], .agg #[.string ⟨#[]⟩, .int .i64 0, .int .i64 0], .agg #[.string ⟨#[]⟩, .int .i64 0, .int .i64 0]], []⟩ 8 (by kernel_rfl) (by kernel_rfl) (by kernel_rfl)
      (x := ([.agg [.nil, .lit (.string []), .lit (.string [])], .agg [.lit (.string []), .lit (.int .i64 0), .lit (.int .i64 0)], .agg [.lit (.string []), .lit (.int .i64 0), .lit (.int .i64 0)]], [], [])) (by kernel_rfl) rfl (by kernel_rfl)) ?_
  intro W base args ds gs before hval hW _ hk _
  exact contract H enc W base args ds gs before hval hW hk
theorem over : Rows.defsSubsUptoRow.holds Try.pinned (Rows.OpenSpec.upto Rows.defsSubsSpec) :=
  OpenClaim.holds_of_cond 5 Try.f5 rfl rfl rfl rfl rfl rfl rfl ⟨rfl, rfl, rfl, rfl, rfl⟩ rfl rfl rfl rfl rfl (by kernel_rfl) Try.func5 (by kernel_rfl)
    (of_decide_eq_true (by kernel_rfl)) (by unfold Func.isWrapper; first | (rw [if_pos (by decide +kernel)]; kernel_rfl) | (rw [if_neg (by decide +kernel)]; exact ⟨rfl, rfl⟩))
    (fun os started H enc _ F => lifted os started H enc F)
theorem proved : Rows.DefsSubsUptoSaid :=
  over
end defsSubs
end Go.Proofs.Ytgelaiohnmpjnaa
