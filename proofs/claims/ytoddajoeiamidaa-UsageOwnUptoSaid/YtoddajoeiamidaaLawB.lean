/-
  UsageOwn: a variable may stand where just its own type is asked for; and where it may be null, if it must be there itself. Conditions: none beside the row's own (bulk at most 1048576).
-/
import Derived.Test.YtoddajoeiamidaaGb
import Derived.Test.YtoddajoeiamidaaGc
import Derived.Test.YtoddajoeiamidaaGa
import Derived.Test.YtoddajoeiamidaaEd
import Derived.Test.YtoddajoeiamidaaRows
import Derived.WalkKit
import Derived.ProofKit
import Derived.OpenShut
import Derived.JoinedCond
set_option linter.unusedVariables false
set_option linter.unusedSimpArgs false
/-
  The typed functions of the layers 1, 4, 18 as plain ones.
-/
set_option linter.unusedVariables false
set_option linter.unusedSimpArgs false
open Go Go.Ev
namespace Go.Proofs.Ytoddajoeiamidaa

def letter (c : Int) : Bool := (decide (97 ≤ c) && decide (c ≤ 122)) || ((decide (65 ≤ c) && decide (c ≤ 90)) || c == 95)
def digit (c : Int) : Bool := decide (48 ≤ c) && decide (c ≤ 57)
theorem letters_Letter_ok (c : Int) : letters_Letter c = some (letter c) := by
  apply letters_Letter_run
  simp only [letters_Letter_B, letter, cnd_ite, ge_iff_le]
  cases decide (97 ≤ c) <;> cases decide (c ≤ 122) <;> cases decide (65 ≤ c) <;> cases decide (c ≤ 90) <;> simp
theorem letters_Digit_ok (c : Int) : letters_Digit c = some (digit c) := by
  apply letters_Digit_run
  simp only [letters_Digit_B, digit, cnd_ite, ge_iff_le]
  cases decide (48 ≤ c) <;> simp
theorem seineref1_start_ok (c : Int) : seineref1_start c = some (letter c) := by
  apply seineref1_start_run
  simp only [seineref1_start_B, letter, cnd_ite, ge_iff_le]
  cases decide (97 ≤ c) <;> cases decide (c ≤ 122) <;> cases decide (65 ≤ c) <;> cases decide (c ≤ 90) <;> simp
theorem seineref1_digit_ok (c : Int) : seineref1_digit c = some (digit c) := by
  apply seineref1_digit_run
  simp only [seineref1_digit_B, digit, cnd_ite, ge_iff_le]
  cases decide (48 ≤ c) <;> simp

/-- All of these may stand behind a name's first sign. -/
def inName (c : UInt8) : Bool := letter c.toNat || digit c.toNat
def isName : Str → Bool
  | [] => false
  | c :: s => letter c.toNat && s.all inName
theorem letters_Name_ok (s : Str) (h : s.length < 4611686018427387904) : letters_Name s = some (isName s) := by
  apply letters_Name_run
  have key := tloop_list (b := letters_Name_l1T s) s (fun k (_ : Unit) => (k : Int)) (fun r _ => if r.all (fun c => inName c) then Sum.inl () else Sum.inr ()) (fun k _ => 1 ≤ k)
    (by
      intro a _
      simp [letters_Name_l1T])
    (by
      intro k x r a hk hx hd hI
      have e1 : (decide ((k : Int) < (List.length s : Int))) = true := by simp; omega
      have e2 : ((k : Int) == 0) = false := by simp; omega
      have e3 : IntKind.wrap .i64 ((k : Int) + 1) = ((k + 1 : Nat) : Int) := wadd (by omega)
      simp only [letters_Name_l1T, e1, cnd_t, nthI_nat, hx, bnd_s, letters_Letter_ok, letters_Digit_ok, e2, cnd_f, e3]
      cases h1 : letter x.toNat <;> cases h2 : digit x.toNat <;> simp [inName, h1, h2])
  unfold letters_Name_B
  cases s with
  | nil =>
    rw [tloop_exit (r := .inl ()) (by simp [letters_Name_l1T])]
    simp [isName]
  | cons c s =>
    have e1 : (decide ((0 : Int) < (List.length (c :: s) : Int))) = true := by simp
    cases h1 : letter c.toNat with
    | false =>
      rw [tloop_exit (r := .inr ()) (by
        have : nthI (c :: s) 0 = some c := rfl
        simp only [letters_Name_l1T, e1, cnd_t, this, bnd_s, letters_Letter_ok, h1]; rfl)]
      simp [isName, h1]
    | true =>
      rw [tloop_next (s' := ((1 : Nat) : Int)) (by
        have : nthI (c :: s) 0 = some c := rfl
        simp only [letters_Name_l1T, e1, cnd_t, this, bnd_s, letters_Letter_ok, h1]; rfl)]
      rw [key 1 () (by simp) (by omega)]
      simp only [List.drop_succ_cons, List.drop_zero, bnd_s, isName, h1, Bool.true_and]
      cases h2 : s.all inName <;> simp
theorem seineref1_Name_ok (s : Str) (h : s.length < 4611686018427387904) : seineref1_Name s = some (isName s) := by
  apply seineref1_Name_run
  have key := tloop_list (b := seineref1_Name_l1T s) s (fun k (_ : Unit) => (k : Int)) (fun r _ => if r.all (fun c => inName c) then Sum.inl () else Sum.inr ()) (fun k _ => 1 ≤ k)
    (by
      intro a _
      simp [seineref1_Name_l1T])
    (by
      intro k x r a hk hx hd hI
      have e1 : (decide ((k : Int) < (List.length s : Int))) = true := by simp; omega
      have e3 : IntKind.wrap .i64 ((k : Int) + 1) = ((k + 1 : Nat) : Int) := wadd (by omega)
      simp only [seineref1_Name_l1T, e1, cnd_t, nthI_nat, hx, bnd_s, seineref1_start_ok, seineref1_digit_ok, cnd_f, e3]
      cases h1 : letter x.toNat <;> cases h2 : digit x.toNat <;> simp [inName, h1, h2])
  unfold seineref1_Name_B
  cases s with
  | nil => rfl
  | cons c s =>
    have : nthI (c :: s) 0 = some c := rfl
    have e0 : ((c :: s) == ([] : Str)) = false := rfl
    simp only [e0, cnd_f, this, bnd_s, seineref1_start_ok]
    cases h1 : letter c.toNat with
    | false => simp [isName, h1]
    | true =>
      have := key 1 () (by simp) (by omega)
      rw [show ((1 : Nat) : Int) = 1 from rfl] at this
      simp only [Bool.not_true, cnd_f, this, List.drop_succ_cons, List.drop_zero, bnd_s, isName, h1, Bool.true_and]
      cases h2 : s.all inName <;> simp

/-! sizes -/
mutual
def szV : GValue → Nat
  | ⟨_, _, s, l, m⟩ => 1 + s.length + szVs l + szMs m
def szVs : List GValue → Nat
  | [] => 0
  | x :: l => szV x + szVs l
def szM : GMember → Nat
  | ⟨n, v⟩ => n.length + szV v
def szMs : List GMember → Nat
  | [] => 0
  | x :: l => szM x + szMs l
end
theorem szV_eq (v : GValue) : szV v = 1 + v.s.length + szVs v.l + szMs v.m := by cases v; simp only [szV]
theorem szM_eq (x : GMember) : szM x = x.name.length + szV x.v := by cases x; simp only [szM]
theorem szVs_mem {x : GValue} : ∀ {l : List GValue}, x ∈ l → szV x ≤ szVs l
  | a :: l, h => by
    simp only [szVs]
    rcases List.mem_cons.1 h with rfl | h
    · omega
    · have := szVs_mem h; omega
theorem szMs_mem {x : GMember} : ∀ {l : List GMember}, x ∈ l → szM x ≤ szMs l
  | a :: l, h => by
    simp only [szMs]
    rcases List.mem_cons.1 h with rfl | h
    · omega
    · have := szMs_mem h; omega
theorem szVs_len : ∀ (l : List GValue), l.length ≤ szVs l
  | [] => by simp [szVs]
  | a :: l => by have := szVs_len l; have := szV_eq a; simp only [szVs, List.length_cons]; omega
theorem szMs_len : ∀ (l : List GMember), l.length ≤ szMs l
  | [] => by simp [szMs]
  | a :: l => by have := szMs_len l; have := szM_eq a; have := szV_eq a.v; simp only [szMs, List.length_cons]; omega
theorem szVs_app : ∀ (l m : List GValue), szVs (l ++ m) = szVs l + szVs m
  | [], m => by simp [szVs]
  | a :: l, m => by simp only [List.cons_append, szVs, szVs_app l m]; omega
theorem seinekeep_Size_ok' : ∀ (n : Nat), n < 4611686018427387904 → ∀ v : GValue, szV v ≤ n → seinekeep_Size v = some (szV v : Int) := by
  intro n
  induction n with
  | zero => intro _ v h; have := szV_eq v; omega
  | succ n ih =>
    intro hn v h
    have hv := szV_eq v
    have hl := szVs_len v.l
    have hm := szMs_len v.m
    apply seinekeep_Size_run
    unfold seinekeep_Size_B
    have k1 := tloop_list (b := seinekeep_Size_l1T v) v.l (fun k (a : Nat) => ((a : Int), (k : Int))) (fun r a => ((a + szVs r : Nat) : Int)) (fun k a => a + szVs (v.l.drop k) ≤ 1 + v.s.length + szVs v.l)
      (by
        intro a _
        simp [seinekeep_Size_l1T, szVs])
      (by
        intro k x r a hk hx hd hI
        have hxm : x ∈ v.l := List.mem_of_getElem? hx
        have h1 := szVs_mem hxm
        have h2 := ih (by omega) x (by omega)
        rw [hd] at hI
        simp only [szVs] at hI
        have e1 : (decide ((k : Int) < (List.length v.l : Int))) = true := by simp; omega
        have e3 : IntKind.wrap .i64 ((k : Int) + 1) = ((k + 1 : Nat) : Int) := wadd (by omega)
        have e4 : IntKind.wrap .i64 ((a : Int) + (szV x : Int)) = ((a + szV x : Nat) : Int) := by rw [wi (by omega)]; omega
        refine .inr ⟨a + szV x, ?_, ?_, ?_⟩
        · simp only [seinekeep_Size_l1T, e1, cnd_t, nthI_nat, hx, bnd_s, h2, e3, e4]
        · have : v.l.drop (k + 1) = r := by rw [← List.tail_drop, hd]; rfl
          rw [this]; omega
        · simp only [szVs, Nat.add_assoc])
    have k2 := tloop_list (b := seinekeep_Size_l2T v) v.m (fun k (a : Nat) => ((a : Int), (k : Int))) (fun r a => ((a + szMs r : Nat) : Int)) (fun k a => a + szMs (v.m.drop k) ≤ 1 + v.s.length + szVs v.l + szMs v.m)
      (by
        intro a _
        simp [seinekeep_Size_l2T, szMs])
      (by
        intro k x r a hk hx hd hI
        have hxm : x ∈ v.m := List.mem_of_getElem? hx
        have h1 := szMs_mem hxm
        have h1' := szM_eq x
        have h2 := ih (by omega) x.v (by omega)
        rw [hd] at hI
        simp only [szMs] at hI
        have e1 : (decide ((k : Int) < (List.length v.m : Int))) = true := by simp; omega
        have e3 : IntKind.wrap .i64 ((k : Int) + 1) = ((k + 1 : Nat) : Int) := wadd (by omega)
        have e5 : IntKind.wrap .i64 ((a : Int) + (x.name.length : Int)) = ((a + x.name.length : Nat) : Int) := by rw [wi (by omega)]; omega
        have e4 : IntKind.wrap .i64 (((a + x.name.length : Nat) : Int) + (szV x.v : Int)) = ((a + szM x : Nat) : Int) := by rw [wi (by omega)]; omega
        refine .inr ⟨a + szM x, ?_, ?_, ?_⟩
        · simp only [seinekeep_Size_l2T, e1, cnd_t, nthI_nat, hx, bnd_s, h2, e3, e4, e5]
        · have : v.m.drop (k + 1) = r := by rw [← List.tail_drop, hd]; rfl
          rw [this]; omega
        · simp only [szMs, Nat.add_assoc])
    have e0 : IntKind.wrap .i64 (1 + (v.s.length : Int)) = ((1 + v.s.length : Nat) : Int) := by rw [wi (by omega)]; omega
    rw [e0, show (0 : Int) = ((0 : Nat) : Int) from rfl, k1 0 (1 + v.s.length) (by omega) (by simp)]
    simp only [List.drop_zero, bnd_s]
    rw [k2 0 (1 + v.s.length + szVs v.l) (by omega) (by simp)]
    simp only [List.drop_zero, bnd_s, hv]
theorem seinekeep_Size_ok (v : GValue) (h : szV v < 4611686018427387904) : seinekeep_Size v = some (szV v : Int) := seinekeep_Size_ok' _ h v (Nat.le_refl _)
mutual
theorem szV_bk : ∀ v : GValue, szV v ≤ bkValue v
  | ⟨_, _, s, l, m⟩ => by
    have h1 := szVs_bk l
    have h2 := szMs_bk m
    simp only [szV, bkValue, bk1, bkStr]; omega
theorem szVs_bk : ∀ l : List GValue, szVs l ≤ bkValues l
  | [] => by simp [szVs]
  | x :: l => by have := szV_bk x; have := szVs_bk l; simp only [szVs, bkValues]; omega
theorem szM_bk : ∀ x : GMember, szM x ≤ bkMember x
  | ⟨n, v⟩ => by have := szV_bk v; simp only [szM, bkMember, bkStr]; omega
theorem szMs_bk : ∀ l : List GMember, szMs l ≤ bkMembers l
  | [] => by simp [szMs]
  | x :: l => by have := szM_bk x; have := szMs_bk l; simp only [szMs, bkMembers]; omega
end
end Go.Proofs.Ytoddajoeiamidaa

/-
  Of any variable, any type: whether it may stand there is the page's; a variable may stand where just its own type is asked for: the typed functions answer true.
-/
set_option linter.unusedVariables false
set_option linter.unusedSimpArgs false
open Go Go.Ev
namespace Go.Proofs.Ytoddajoeiamidaa

/-- Numbers as the model holds them, a name that is not endless. -/
def TOk (t : GType) : Prop := (-9223372036854775808 ≤ t.lists ∧ t.lists ≤ 9223372036854775807) ∧ (-9223372036854775808 ≤ t.musts ∧ t.musts ≤ 9223372036854775807) ∧ t.name.length < 4611686018427387904
def rightT (t : GType) : Bool := isName t.name && (decide (0 ≤ t.lists) && (decide (t.lists ≤ 4) && (decide (0 ≤ t.musts) && decide (t.musts < 2 ^ (t.lists.toNat + 1)))))
theorem rightT_iff (t : GType) : rightT t = true ↔ isName t.name = true ∧ 0 ≤ t.lists ∧ t.lists ≤ 4 ∧ 0 ≤ t.musts ∧ t.musts < 2 ^ (t.lists.toNat + 1) := by
  simp [rightT]
theorem wrap_Right_ok (t : GType) (h : TOk t) : wrap_Right t = some (rightT t) := by
  obtain ⟨⟨h1, h2⟩, ⟨h3, h4⟩, h5⟩ := h
  apply wrap_Right_run
  simp only [wrap_Right_B, letters_Name_ok _ h5, bnd_s, ge_iff_le]
  unfold rightT
  cases isName t.name
  · rfl
  · by_cases hl : 0 ≤ t.lists
    · by_cases hl4 : t.lists ≤ 4
      · by_cases hm : 0 ≤ t.musts
        · have e1 : IntKind.wrap .i64 (t.lists + 1) = t.lists + 1 := wi (by omega)
          have e2 : (t.lists + 1).toNat = t.lists.toNat + 1 := by omega
          have e3 : min (t.lists.toNat + 1) 64 = t.lists.toNat + 1 := by omega
          simp only [hl, hl4, hm, decide_true, cnd_t, e1, tshr, if_neg (show ¬ (t.lists + 1 < 0) by omega), bnd_s, IntKind.bits, e2, e3, Bool.true_and]
          congr 1
          rw [Bool.eq_iff_iff]
          simp only [beq_iff_eq, decide_eq_true_eq]
          have hp : (0 : Int) < 2 ^ (t.lists.toNat + 1) := Int.pow_pos (by decide)
          rw [Int.fdiv_eq_ediv_of_nonneg _ (Int.le_of_lt hp)]
          constructor
          · intro h; 
            have := Int.lt_ediv_add_one_mul_self t.musts hp
            rw [h] at this; simpa using this
          · intro h; exact Int.ediv_eq_zero_of_lt hm h
        · simp [hl, hl4, hm]
      · simp [hl, hl4]
    · simp [hl]
theorem seineref1_RightType_ok (t : GType) (h : TOk t) : seineref1_RightType t = some (rightT t) := by
  obtain ⟨⟨h1, h2⟩, ⟨h3, h4⟩, h5⟩ := h
  apply seineref1_RightType_run
  simp only [seineref1_RightType_B, seineref1_Name_ok _ h5, bnd_s, ge_iff_le]
  unfold rightT
  cases isName t.name
  · rfl
  · by_cases hl : 0 ≤ t.lists
    · by_cases hl4 : t.lists ≤ 4
      · by_cases hm : 0 ≤ t.musts
        · have e1 : IntKind.wrap .u64 t.lists = t.lists := by rw [wu]; omega
          have e3 : min t.lists.toNat 64 = t.lists.toNat := by omega
          have hc : t.lists.toNat = 0 ∨ t.lists.toNat = 1 ∨ t.lists.toNat = 2 ∨ t.lists.toNat = 3 ∨ t.lists.toNat = 4 := by omega
          have e4 : IntKind.wrap .i64 (2 * 2 ^ t.lists.toNat) = 2 ^ (t.lists.toNat + 1) := by
            rcases hc with h | h | h | h | h <;> rw [h] <;> rfl
          simp only [hl, hl4, hm, decide_true, cnd_t, e1, tshl, if_neg (show ¬ (t.lists < 0) by omega), bnd_s, IntKind.bits, e3, e4, Bool.true_and]
        · simp [hl, hl4, hm]
      · simp [hl, hl4]
    · simp [hl]
def bit0 (n : Int) : Bool := bits .and .i64 n 1 == 1
theorem wrap_bit_ok (t : GType) : wrap_bit t 0 = some (bit0 t.musts) := by
  apply wrap_bit_run
  have : t.musts.fdiv (2 ^ min (Int.toNat 0) 64) = t.musts := by
    show t.musts.fdiv 1 = t.musts
    exact Int.fdiv_one _
  simp only [wrap_bit_B, tshr, if_neg (show ¬ ((0 : Int) < 0) by omega), bnd_s, IntKind.bits, this, bit0]
def isT (t : GType) : Bool := rightT t && bit0 t.musts
theorem wrap_Is_ok (t : GType) (h : TOk t) : wrap_Is t = some (isT t) := by
  apply wrap_Is_run
  simp only [wrap_Is_B, wrap_Right_ok t h, wrap_bit_ok, bnd_s, isT]
  cases rightT t <;> rfl
theorem seineref1_Is_ok (t : GType) (h : TOk t) : seineref1_Is t = some (isT t) := by
  apply seineref1_Is_run
  simp only [seineref1_Is_B, seineref1_RightType_ok t h, bnd_s, isT, bit0]
  cases rightT t <;> rfl
def bareT (t : GType) : GType := bif rightT t then ⟨t.name, t.lists, bits .andNot .i64 t.musts 1⟩ else t
def mustT (t : GType) : GType := bif rightT t then ⟨t.name, t.lists, bits .or .i64 t.musts 1⟩ else t
theorem wrap_Bare_ok (t : GType) (h : TOk t) : wrap_Bare t = some (bareT t) := by
  apply wrap_Bare_run
  simp only [wrap_Bare_B, wrap_Right_ok t h, bnd_s, bareT]
  cases rightT t <;> rfl
theorem wrap_Must_ok (t : GType) (h : TOk t) : wrap_Must t = some (mustT t) := by
  apply wrap_Must_run
  simp only [wrap_Must_B, wrap_Right_ok t h, bnd_s, mustT]
  cases rightT t <;> rfl
theorem seineref1_Bare_ok (t : GType) (h : TOk t) : seineref1_Bare t = some (bareT t) := by
  apply seineref1_Bare_run
  simp only [seineref1_Bare_B, seineref1_RightType_ok t h, bnd_s, bareT]
  cases rightT t <;> rfl
def subT (a b : GType) : Bool := rightT a && (rightT b && (a.name == b.name && (a.lists == b.lists && bits .andNot .i64 b.musts a.musts == 0)))
theorem wrap_Sub_ok (a b : GType) (ha : TOk a) (hb : TOk b) : wrap_Sub a b = some (subT a b) := by
  apply wrap_Sub_run
  simp only [wrap_Sub_B, wrap_Right_ok a ha, wrap_Right_ok b hb, bnd_s, subT]
  cases rightT a <;> cases rightT b <;> cases a.name == b.name <;> cases a.lists == b.lists <;> rfl
theorem seineref1_SubType_ok (a b : GType) (ha : TOk a) (hb : TOk b) : seineref1_SubType a b = some (subT a b) := by
  apply seineref1_SubType_run
  simp only [seineref1_SubType_B, seineref1_RightType_ok a ha, seineref1_RightType_ok b hb, bnd_s, subT]
  cases rightT a <;> cases rightT b <;> cases a.name == b.name <;> cases a.lists == b.lists <;> rfl
theorem bits_range (op : BinOp) (a b : Int) : -9223372036854775808 ≤ bits op .i64 a b ∧ bits op .i64 a b ≤ 9223372036854775807 := by
  have key : ∀ n : Int, -9223372036854775808 ≤ IntKind.wrap .i64 n ∧ IntKind.wrap .i64 n ≤ 9223372036854775807 := by
    intro n; rw [IntKind.wrap_i64]; omega
  unfold bits
  cases op <;> exact key _
theorem TOk.bare {t : GType} (h : TOk t) : TOk (bareT t) := by
  unfold bareT
  cases rightT t
  · exact h
  · show TOk ⟨t.name, t.lists, bits .andNot .i64 t.musts 1⟩
    exact ⟨h.1, bits_range .andNot t.musts 1, h.2.2⟩
theorem TOk.must {t : GType} (h : TOk t) : TOk (mustT t) := by
  unfold mustT
  cases rightT t
  · exact h
  · show TOk ⟨t.name, t.lists, bits .or .i64 t.musts 1⟩
    exact ⟨h.1, bits_range .or t.musts 1, h.2.2⟩

def allowedT (v : GVarDef) (t : GType) (has : Bool) : Bool :=
  bif !isT t || isT v.t then subT v.t t else (has || (v.has && v.default.kind != 0)) && subT v.t (bareT t)
theorem usage_Allowed_ok (v : GVarDef) (t : GType) (has : Bool) (hv : TOk v.t) (ht : TOk t) : usage_Allowed v t has = some (allowedT v t has) := by
  apply usage_Allowed_run
  simp only [usage_Allowed_B, wrap_Is_ok _ hv, wrap_Is_ok _ ht, wrap_Sub_ok _ _ hv ht, wrap_Bare_ok _ ht, wrap_Sub_ok _ _ hv ht.bare, bnd_s, allowedT]
  cases isT t <;> cases isT v.t <;> cases has <;> cases v.has <;> cases v.default.kind != 0 <;> rfl
theorem seineref13_Allowed_ok (v : GVarDef) (t : GType) (has : Bool) (hv : TOk v.t) (ht : TOk t) : seineref13_Allowed v t has = some (allowedT v t has) := by
  apply seineref13_Allowed_run
  simp only [seineref13_Allowed_B, seineref1_Is_ok _ hv, seineref1_Is_ok _ ht, seineref1_SubType_ok _ _ hv ht, seineref1_Bare_ok _ ht, seineref1_SubType_ok _ _ hv ht.bare, bnd_s, allowedT]
  have e : (v.default.kind != 0) = !(v.default.kind == 0) := rfl
  rw [e]
  cases isT t <;> cases isT v.t <;> cases has <;> cases v.has <;> cases v.default.kind == 0 <;> rfl

theorem seinelaw18_typ_ok (s : Str) (n : Int) : seinelaw18_typ s n = some ⟨s, 0, n⟩ := seinelaw18_typ_run rfl
theorem seinelaw18_awake_ok : seinelaw18_awake = some true := by
  apply seinelaw18_awake_run
  have h0 : TOk ⟨[73, 110, 116], 0, 0⟩ := ⟨by decide, by decide, by decide⟩
  have h1 : TOk ⟨[73, 110, 116], 0, 1⟩ := ⟨by decide, by decide, by decide⟩
  simp only [seinelaw18_awake_B, seinelaw18_typ_ok, bnd_s]
  rw [usage_Allowed_ok _ _ _ h0 h1, usage_Allowed_ok _ _ _ h0 h1, usage_Allowed_ok _ _ _ h0 h1]
  rfl

theorem seinelaw18_UsageAllows_ok (v : GVarDef) (t : GType) (has : Bool) (hv : TOk v.t) (ht : TOk t) (hb : v.name.length + v.t.name.length + t.name.length + szV v.default < 4611686018427387904) : seinelaw18_UsageAllows v t has = some true := by
  apply seinelaw18_UsageAllows_run
  simp only [seinelaw18_UsageAllows_B, seinekeep_Size_ok v.default (by omega), bnd_s, seinelaw18_awake_ok, usage_Allowed_ok _ _ _ hv ht, seineref13_Allowed_ok _ _ _ hv ht, beq_self_eq_true, cnd_t]
  cases h1 : allowedT v t false
  · simp [cnd_same]
  · have : allowedT v t true = true := by
      unfold allowedT at h1 ⊢
      cases h2 : !isT t || isT v.t
      · rw [h2] at h1
        simp only [cond_false, Bool.and_eq_true] at h1 ⊢
        exact ⟨rfl, h1.2⟩
      · rw [h2] at h1; exact h1
    simp [this, cnd_same]

theorem small_bits : ∀ (l : Fin 5) (m : Fin 32), m.val < 2 ^ (l.val + 1) →
    (0 ≤ bits .or .i64 (m.val : Int) 1 ∧ bits .or .i64 (m.val : Int) 1 < 2 ^ (l.val + 1)) ∧ (0 ≤ bits .andNot .i64 (m.val : Int) 1 ∧ bits .andNot .i64 (m.val : Int) 1 < 2 ^ (l.val + 1)) ∧
    bit0 (bits .or .i64 (m.val : Int) 1) = true ∧ bits .andNot .i64 (bits .andNot .i64 (m.val : Int) 1) (bits .or .i64 (m.val : Int) 1) = 0 ∧
    bits .andNot .i64 (m.val : Int) (m.val : Int) = 0 ∧ bits .andNot .i64 (bits .or .i64 (m.val : Int) 1) (bits .or .i64 (m.val : Int) 1) = 0 := by decide +kernel
theorem right_bits {t : GType} (h : rightT t = true) : rightT ⟨t.name, t.lists, bits .or .i64 t.musts 1⟩ = true ∧ rightT ⟨t.name, t.lists, bits .andNot .i64 t.musts 1⟩ = true ∧ bit0 (bits .or .i64 t.musts 1) = true ∧
    bits .andNot .i64 (bits .andNot .i64 t.musts 1) (bits .or .i64 t.musts 1) = 0 ∧ bits .andNot .i64 t.musts t.musts = 0 ∧ bits .andNot .i64 (bits .or .i64 t.musts 1) (bits .or .i64 t.musts 1) = 0 := by
  obtain ⟨h1, h2, h3, h4, h5⟩ := (rightT_iff t).1 h
  obtain ⟨l, hl⟩ := Int.eq_ofNat_of_zero_le h2
  obtain ⟨m, hm⟩ := Int.eq_ofNat_of_zero_le h4
  rw [hl] at h3 h5
  rw [hm] at h5
  simp only [Int.toNat_natCast] at h5
  have h5' : m < 2 ^ (l + 1) := by exact_mod_cast h5
  have hl5 : l < 5 := by omega
  have hm5 : m < 32 := Nat.lt_of_lt_of_le h5' (by
    have : 2 ^ (l + 1) ≤ 2 ^ 5 := Nat.pow_le_pow_right (by decide) (by omega)
    exact this)
  obtain ⟨k1, k2, k3, k4, k5, k6⟩ := small_bits ⟨l, hl5⟩ ⟨m, hm5⟩ h5'
  simp only at k1 k2 k3 k4 k5 k6
  simp only [rightT_iff, hl, hm, Int.toNat_natCast]
  exact ⟨⟨h1, by omega, by omega, k1⟩, ⟨h1, by omega, by omega, k2⟩, k3, k4, k5, k6⟩
theorem seinelaw18_UsageOwn_ok (v : GVarDef) (has : Bool) (hv : TOk v.t) (hb : v.name.length + v.t.name.length + szV v.default < 4611686018427387904) : seinelaw18_UsageOwn v has = some true := by
  apply seinelaw18_UsageOwn_run
  have a1 : allowedT v v.t has = rightT v.t := by
    unfold allowedT
    have : (!isT v.t || isT v.t) = true := by cases isT v.t <;> rfl
    rw [this]
    simp only [cond_true, subT]
    cases h : rightT v.t
    · rfl
    · simp [(right_bits h).2.2.2.2.1]
  have key : allowedT ⟨v.name, mustT v.t, v.has, v.default⟩ (bareT v.t) has = rightT v.t ∧ allowedT ⟨v.name, mustT v.t, v.has, v.default⟩ (mustT v.t) has = rightT v.t := by
    cases h : rightT v.t
    · have e1 : mustT v.t = v.t := by simp [mustT, h]
      have e2 : bareT v.t = v.t := by simp [bareT, h]
      rw [e1, e2]
      have : isT v.t = false := by simp [isT, h]
      constructor <;> simp [allowedT, this, subT, h]
    · obtain ⟨k1, k2, k3, k4, k5, k6⟩ := right_bits h
      have e1 : mustT v.t = ⟨v.t.name, v.t.lists, bits .or .i64 v.t.musts 1⟩ := by simp [mustT, h]
      have e2 : bareT v.t = ⟨v.t.name, v.t.lists, bits .andNot .i64 v.t.musts 1⟩ := by simp [bareT, h]
      rw [e1, e2]
      have : isT ⟨v.t.name, v.t.lists, bits .or .i64 v.t.musts 1⟩ = true := by simp [isT, k1, k3]
      constructor
      · simp [allowedT, this, subT, k1, k2, k4]
      · simp [allowedT, this, subT, k1, k6]
  simp only [seinelaw18_UsageOwn_B, seinekeep_Size_ok v.default (by omega), bnd_s, seinelaw18_awake_ok, wrap_Right_ok _ hv, wrap_Must_ok _ hv, wrap_Bare_ok _ hv, usage_Allowed_ok _ _ _ hv hv, a1, beq_self_eq_true, cnd_t]
  rw [usage_Allowed_ok _ _ _ (show TOk (GVarDef.mk v.name (mustT v.t) v.has v.default).t from hv.must) hv.bare, usage_Allowed_ok _ _ _ (show TOk (GVarDef.mk v.name (mustT v.t) v.has v.default).t from hv.must) hv.must, key.1, key.2]
  simp [cnd_same]
end Go.Proofs.Ytoddajoeiamidaa

/-
  What is asked of the program as a whole.
-/
set_option linter.unusedVariables false
open Go Go.Ev
open Go.ChangeShapes Go.WideShapes Go.ChangeAt Go.RowKit
namespace Go.Proofs.Ytoddajoeiamidaa
theorem mixed : Try.prog.follows .mixedOrders = true := by kernel_rfl
theorem names : (Try.prog.funcs.toList.all fun fn => !fn.body.isSome || !(fn.name == "runtime.NumGoroutine")) = true := by kernel_rfl
theorem laid : laidOutB Try.prog = true := by kernel_rfl
theorem pok : POk Try.prog := by
  refine ⟨mixed, fun f fn hf hb => ?_⟩
  have hm : fn ∈ Try.prog.funcs.toList := by
    have := Array.mem_of_getElem? hf
    simpa using this
  have := List.all_eq_true.1 names fn hm
  rw [hb] at this
  simpa using this
theorem xok : ExtOk Try.prog XT := fun f g h => by simp [XT] at h
theorem blOk {H : Type} : BlOk (H := H) Rows.uptoBulk Rows.uptoBulkAll := by
  refine ⟨fun l => ?_, fun s => ?_, ?_, fun es sp => ?_, fun ps => ?_, fun d r => ?_⟩
  · cases l <;> simp [Rows.uptoBulk]
  · simp [Rows.uptoBulk]
  · simp [Rows.uptoBulk]
  · simp only [Rows.uptoBulk]; omega
  · simp only [Rows.uptoBulk]; omega
  · simp [Rows.uptoBulkAll]
theorem own : ownKnob Try.prog.godebug = none := by kernel_rfl
end Go.Proofs.Ytoddajoeiamidaa

/-
  UsageOwn: a variable may stand where just its own type is asked for. Conditions: none beside the row's own (bulk at most 1048576).
-/
set_option linter.unusedVariables false
open Go Go.Ev
open Go.ChangeShapes Go.WideShapes Go.ChangeAt Go.RowKit
namespace Go.Proofs.Ytoddajoeiamidaa
namespace usageOwn
def fs : Ty := (.fcons (.ext 3) (.fcons .bool .fnil))
theorem lawF : ∀ x : fs.den RS, good RS fs x → bulkL RS fs x ≤ 1048576 → OL Try.prog MT XT 4 (encL RS fs x) [] = some (.bool true, []) := by
  rintro ⟨x0, x1, _⟩ g b
  have b' : bkVarDef x0 + bk1 x1 ≤ 1048576 := b
  obtain ⟨g0, g1, _⟩ := g
  have g0' : gdVarDef x0 := g0
  have g1' : gd1 x1 := g1
  have e : encL RS fs (x0, x1, ()) = [encVarDef x0, PV.bool x1] := rfl
  rw [e]
  change O 4 _ _ = _
  have h := seinelaw18_UsageOwn_spec (seinelaw18_UsageOwn_ok x0 x1 (by have g := g0'.2.1; exact ⟨gdI_i64 g.2.1, gdI_i64 g.2.2.1, by simp only [bkVarDef, bkType, bk1, bkStr] at b'; omega⟩) (by simp only [bkVarDef, bkType, bk1, bkStr] at b'; have := szV_bk x0.default; omega))
  simpa only [tys, seinelaw18_UsageOwnE] using h
theorem contract (H : Type) (enc : TypeId × Value → H) (W : World) (base : Nat) (args : Array Value) (ds gs : List (DataW H)) (before : List MemPlace)
    (hval : ∀ (j : Nat) t v, Try.f4.params[j]? = some t → args[j]? = some v → Value.okWide Try.prog W .any base t v)
    (hW : DataW.Whole enc Try.prog Try.f4.params.toList Rows.usageOwnSpec.vars false W args.toList ds gs before) (hk : Rows.uptoSmall H (ds ++ gs) = true) :
    Calls Try.prog 4 args W fun e W' => ∃ v, e = .returned v ∧ Rows.usageOwnSpec.post enc Try.prog Try.f4 false true false false W args v W' := by
  have hg : gs = [] := by
    obtain ⟨p, q, hA, hV, _⟩ := hW
    exact (trodVars_none hV).1
  have hb : Rows.uptoBulkAll ds ≤ 1048576 := by
    have := of_decide_eq_true hk
    simpa [hg] using this
  have hlen : ds.length = 2 := by
    obtain ⟨p, q, hA0, hV, _⟩ := hW
    have hA : DataW.TrodAll enc Try.prog W 0 (fun _ => true) true Try.f4.params.toList args.toList ds p := hA0
    rw [Try.params4] at hA
    obtain ⟨v0, vs0, d0, ds0, p0, q0, h0, rfl, rfl, ht0, r0⟩ := trodAll_cons hA
    obtain ⟨v1, vs1, d1, ds1, p1, q1, h1, rfl, rfl, ht1, r1⟩ := trodAll_cons r0
    obtain ⟨rfl, rfl, rfl⟩ := trodAll_nil r1
    rfl
  refine contract_true pok xok laid blOk Try.func4 rfl (n := 9) (ρ := RS) (τ := TS) (fs := fs) (tb := 4) (by kernel_rfl) (by rw [show Try.f4.resultTypes = #[4] from rfl]) Try.underlying4 rfl (rok enc W blOk) ?_ hval hW hb lawF
  subst hg
  match ds, hlen with
  | [d0, d1], _ => exact ⟨rfl, rfl, rfl⟩
set_option maxRecDepth 100000 in
theorem lifted (os : Os) (started : os.Started) (H : Type) (enc : TypeId × Value → H) (F : Stop.Interp) :
    ReturnsInHanded {} Try.checked os 4 .any ((Rows.OpenSpec.upto Rows.usageOwnSpec).pre6 enc Try.prog Try.f4 Rows.usageOwnUptoRow.domain false) (((Rows.OpenSpec.upto Rows.usageOwnSpec).at F).post enc Try.prog Try.f4 false true false false) := by
  refine returnsInHanded_of_cond (C := Try.checked) (s := Rows.OpenSpec.upto Rows.usageOwnSpec) (k := Rows.uptoSmall) rfl own started (by kernel_rfl) Try.func4
    (OpenSpec.witness (enc := enc) (C := Try.checked) (s := Rows.OpenSpec.upto Rows.usageOwnSpec) (k := Rows.uptoSmall) rfl false ⟨#[], #[.agg #[.string ⟨#[]⟩, .string ⟨#[]⟩, .int .i64 0, .int .i64 0, .bool false, .int .i64 0, .int .i64 0, .string ⟨#[]⟩, .slice none 0 0, .slice none 0 0], .bool false], []⟩ 8 (by kernel_rfl) (by kernel_rfl) (by kernel_rfl)
      (x := ([.agg [.lit (.string []), .agg [.lit (.string []), .lit (.int .i64 0), .lit (.int .i64 0)], .lit (.bool false), .agg [.lit (.int .i64 0), .lit (.int .i64 0), .lit (.string []), .nil, .nil]], .lit (.bool false)], [], [])) (by kernel_rfl) rfl (by kernel_rfl)) ?_
  intro W base args ds gs before hval hW _ hk _
  exact contract H enc W base args ds gs before hval hW hk
theorem over : Rows.usageOwnUptoRow.holds Try.pinned (Rows.OpenSpec.upto Rows.usageOwnSpec) :=
  OpenClaim.holds_of_cond 4 Try.f4 rfl rfl rfl rfl rfl rfl rfl ⟨rfl, rfl, rfl, rfl, rfl⟩ rfl rfl rfl rfl rfl (by kernel_rfl) Try.func4 (by kernel_rfl)
    (of_decide_eq_true (by kernel_rfl)) (by unfold Func.isWrapper; first | (rw [if_pos (by decide +kernel)]; kernel_rfl) | (rw [if_neg (by decide +kernel)]; exact ⟨rfl, rfl⟩))
    (fun os started H enc _ F => lifted os started H enc F)
theorem proved : Rows.UsageOwnUptoSaid :=
  over
end usageOwn
end Go.Proofs.Ytoddajoeiamidaa
