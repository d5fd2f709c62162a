/-
  WrapOrder: sub is an order among types that may be: each is its own, two ways mean one type, and it goes on. Conditions: none beside the row's own (bulk at most 1048576).
-/
import Derived.Test.YtdnghbdhbahmeaaGb
import Derived.Test.YtdnghbdhbahmeaaEd
import Derived.KernelRfl
import Derived.Test.YtdnghbdhbahmeaaGa
import Derived.Test.YtdnghbdhbahmeaaRows
import Derived.WalkKit
import Derived.ProofKit
import Derived.OpenShut
import Derived.JoinedCond
set_option linter.unusedVariables false
set_option linter.unusedSimpArgs false
/-
  Names: the program's and the reference's are alike.
-/
set_option linter.unusedVariables false
set_option linter.unusedSimpArgs false
open Go Go.Ev
namespace Go.Proofs.Ytdnghbdhbahmeaa

def letter (c : Int) : Bool := (decide (97 ≤ c) && decide (c ≤ 122)) || ((decide (65 ≤ c) && decide (c ≤ 90)) || c == 95)
def digit (c : Int) : Bool := decide (48 ≤ c) && decide (c ≤ 57)
theorem letters_Letter_ok (c : Int) : letters_Letter c = some (letter c) := by
  apply letters_Letter_run
  simp only [letters_Letter_B, letter, cnd_ite, ge_iff_le]
  cases decide (97 ≤ c) <;> cases decide (c ≤ 122) <;> cases decide (65 ≤ c) <;> cases decide (c ≤ 90) <;> simp
theorem letters_Digit_ok (c : Int) : letters_Digit c = some (digit c) := by
  apply letters_Digit_run
  simp only [letters_Digit_B, digit, cnd_ite, ge_iff_le]
  cases decide (48 ≤ c) <;> simp
theorem seineref1_start_ok (c : Int) : seineref1_start c = some (letter c) := by
  apply seineref1_start_run
  simp only [seineref1_start_B, letter, cnd_ite, ge_iff_le]
  cases decide (97 ≤ c) <;> cases decide (c ≤ 122) <;> cases decide (65 ≤ c) <;> cases decide (c ≤ 90) <;> simp
theorem seineref1_digit_ok (c : Int) : seineref1_digit c = some (digit c) := by
  apply seineref1_digit_run
  simp only [seineref1_digit_B, digit, cnd_ite, ge_iff_le]
  cases decide (48 ≤ c) <;> simp

/-- All of these may stand behind a name's first sign. -/
def inName (c : UInt8) : Bool := letter c.toNat || digit c.toNat
def isName : Str → Bool
  | [] => false
  | c :: s => letter c.toNat && s.all inName
theorem letters_Name_ok (s : Str) (h : s.length < 4611686018427387904) : letters_Name s = some (isName s) := by
  apply letters_Name_run
  have key := tloop_list (b := letters_Name_l1T s) s (fun k (_ : Unit) => (k : Int)) (fun r _ => if r.all (fun c => inName c) then Sum.inl () else Sum.inr ()) (fun k _ => 1 ≤ k)
    (by
      intro a _
      simp [letters_Name_l1T])
    (by
      intro k x r a hk hx hd hI
      have e1 : (decide ((k : Int) < (List.length s : Int))) = true := by simp; omega
      have e2 : ((k : Int) == 0) = false := by simp; omega
      have e3 : IntKind.wrap .i64 ((k : Int) + 1) = ((k + 1 : Nat) : Int) := wadd (by omega)
      simp only [letters_Name_l1T, e1, cnd_t, nthI_nat, hx, bnd_s, letters_Letter_ok, letters_Digit_ok, e2, cnd_f, e3]
      cases h1 : letter x.toNat <;> cases h2 : digit x.toNat <;> simp [inName, h1, h2])
  unfold letters_Name_B
  cases s with
  | nil =>
    rw [tloop_exit (r := .inl ()) (by simp [letters_Name_l1T])]
    simp [isName]
  | cons c s =>
    have e1 : (decide ((0 : Int) < (List.length (c :: s) : Int))) = true := by simp
    cases h1 : letter c.toNat with
    | false =>
      rw [tloop_exit (r := .inr ()) (by
        have : nthI (c :: s) 0 = some c := rfl
        simp only [letters_Name_l1T, e1, cnd_t, this, bnd_s, letters_Letter_ok, h1]; rfl)]
      simp [isName, h1]
    | true =>
      rw [tloop_next (s' := ((1 : Nat) : Int)) (by
        have : nthI (c :: s) 0 = some c := rfl
        simp only [letters_Name_l1T, e1, cnd_t, this, bnd_s, letters_Letter_ok, h1]; rfl)]
      rw [key 1 () (by simp) (by omega)]
      simp only [List.drop_succ_cons, List.drop_zero, bnd_s, isName, h1, Bool.true_and]
      cases h2 : s.all inName <;> simp
theorem seineref1_Name_ok (s : Str) (h : s.length < 4611686018427387904) : seineref1_Name s = some (isName s) := by
  apply seineref1_Name_run
  have key := tloop_list (b := seineref1_Name_l1T s) s (fun k (_ : Unit) => (k : Int)) (fun r _ => if r.all (fun c => inName c) then Sum.inl () else Sum.inr ()) (fun k _ => 1 ≤ k)
    (by
      intro a _
      simp [seineref1_Name_l1T])
    (by
      intro k x r a hk hx hd hI
      have e1 : (decide ((k : Int) < (List.length s : Int))) = true := by simp; omega
      have e3 : IntKind.wrap .i64 ((k : Int) + 1) = ((k + 1 : Nat) : Int) := wadd (by omega)
      simp only [seineref1_Name_l1T, e1, cnd_t, nthI_nat, hx, bnd_s, seineref1_start_ok, seineref1_digit_ok, cnd_f, e3]
      cases h1 : letter x.toNat <;> cases h2 : digit x.toNat <;> simp [inName, h1, h2])
  unfold seineref1_Name_B
  cases s with
  | nil => rfl
  | cons c s =>
    have : nthI (c :: s) 0 = some c := rfl
    have e0 : ((c :: s) == ([] : Str)) = false := rfl
    simp only [e0, cnd_f, this, bnd_s, seineref1_start_ok]
    cases h1 : letter c.toNat with
    | false => simp [isName, h1]
    | true =>
      have := key 1 () (by simp) (by omega)
      rw [show ((1 : Nat) : Int) = 1 from rfl] at this
      simp only [Bool.not_true, cnd_f, this, List.drop_succ_cons, List.drop_zero, bnd_s, isName, h1, Bool.true_and]
      cases h2 : s.all inName <;> simp

end Go.Proofs.Ytdnghbdhbahmeaa

/-
  Layer 4, wrap: the typed functions as plain ones.
-/
set_option linter.unusedVariables false
set_option linter.unusedSimpArgs false
open Go Go.Ev
namespace Go.Proofs.Ytdnghbdhbahmeaa

/-- Numbers as the model holds them, a name that is not endless. -/
def TOk (t : GType) : Prop := (-9223372036854775808 ≤ t.lists ∧ t.lists ≤ 9223372036854775807) ∧ (-9223372036854775808 ≤ t.musts ∧ t.musts ≤ 9223372036854775807) ∧ t.name.length < 4611686018427387904
def rightT (t : GType) : Bool := isName t.name && (decide (0 ≤ t.lists) && (decide (t.lists ≤ 4) && (decide (0 ≤ t.musts) && decide (t.musts < 2 ^ (t.lists.toNat + 1)))))
theorem rightT_iff (t : GType) : rightT t = true ↔ isName t.name = true ∧ 0 ≤ t.lists ∧ t.lists ≤ 4 ∧ 0 ≤ t.musts ∧ t.musts < 2 ^ (t.lists.toNat + 1) := by
  simp [rightT]
theorem wrap_Right_ok (t : GType) (h : TOk t) : wrap_Right t = some (rightT t) := by
  obtain ⟨⟨h1, h2⟩, ⟨h3, h4⟩, h5⟩ := h
  apply wrap_Right_run
  simp only [wrap_Right_B, letters_Name_ok _ h5, bnd_s, ge_iff_le]
  unfold rightT
  cases isName t.name
  · rfl
  · by_cases hl : 0 ≤ t.lists
    · by_cases hl4 : t.lists ≤ 4
      · by_cases hm : 0 ≤ t.musts
        · have e1 : IntKind.wrap .i64 (t.lists + 1) = t.lists + 1 := wi (by omega)
          have e2 : (t.lists + 1).toNat = t.lists.toNat + 1 := by omega
          have e3 : min (t.lists.toNat + 1) 64 = t.lists.toNat + 1 := by omega
          simp only [hl, hl4, hm, decide_true, cnd_t, e1, tshr, if_neg (show ¬ (t.lists + 1 < 0) by omega), bnd_s, IntKind.bits, e2, e3, Bool.true_and]
          congr 1
          rw [Bool.eq_iff_iff]
          simp only [beq_iff_eq, decide_eq_true_eq]
          have hp : (0 : Int) < 2 ^ (t.lists.toNat + 1) := Int.pow_pos (by decide)
          rw [Int.fdiv_eq_ediv_of_nonneg _ (Int.le_of_lt hp)]
          constructor
          · intro h; 
            have := Int.lt_ediv_add_one_mul_self t.musts hp
            rw [h] at this; simpa using this
          · intro h; exact Int.ediv_eq_zero_of_lt hm h
        · simp [hl, hl4, hm]
      · simp [hl, hl4]
    · simp [hl]
theorem seineref1_RightType_ok (t : GType) (h : TOk t) : seineref1_RightType t = some (rightT t) := by
  obtain ⟨⟨h1, h2⟩, ⟨h3, h4⟩, h5⟩ := h
  apply seineref1_RightType_run
  simp only [seineref1_RightType_B, seineref1_Name_ok _ h5, bnd_s, ge_iff_le]
  unfold rightT
  cases isName t.name
  · rfl
  · by_cases hl : 0 ≤ t.lists
    · by_cases hl4 : t.lists ≤ 4
      · by_cases hm : 0 ≤ t.musts
        · have e1 : IntKind.wrap .u64 t.lists = t.lists := by rw [wu]; omega
          have e3 : min t.lists.toNat 64 = t.lists.toNat := by omega
          have hc : t.lists.toNat = 0 ∨ t.lists.toNat = 1 ∨ t.lists.toNat = 2 ∨ t.lists.toNat = 3 ∨ t.lists.toNat = 4 := by omega
          have e4 : IntKind.wrap .i64 (2 * 2 ^ t.lists.toNat) = 2 ^ (t.lists.toNat + 1) := by
            rcases hc with h | h | h | h | h <;> rw [h] <;> rfl
          simp only [hl, hl4, hm, decide_true, cnd_t, e1, tshl, if_neg (show ¬ (t.lists < 0) by omega), bnd_s, IntKind.bits, e3, e4, Bool.true_and]
        · simp [hl, hl4, hm]
      · simp [hl, hl4]
    · simp [hl]
def bit0 (n : Int) : Bool := bits .and .i64 n 1 == 1
theorem wrap_bit_ok (t : GType) : wrap_bit t 0 = some (bit0 t.musts) := by
  apply wrap_bit_run
  have : t.musts.fdiv (2 ^ min (Int.toNat 0) 64) = t.musts := by
    show t.musts.fdiv 1 = t.musts
    exact Int.fdiv_one _
  simp only [wrap_bit_B, tshr, if_neg (show ¬ ((0 : Int) < 0) by omega), bnd_s, IntKind.bits, this, bit0]
def isT (t : GType) : Bool := rightT t && bit0 t.musts
theorem wrap_Is_ok (t : GType) (h : TOk t) : wrap_Is t = some (isT t) := by
  apply wrap_Is_run
  simp only [wrap_Is_B, wrap_Right_ok t h, wrap_bit_ok, bnd_s, isT]
  cases rightT t <;> rfl
theorem seineref1_Is_ok (t : GType) (h : TOk t) : seineref1_Is t = some (isT t) := by
  apply seineref1_Is_run
  simp only [seineref1_Is_B, seineref1_RightType_ok t h, bnd_s, isT, bit0]
  cases rightT t <;> rfl
def bareT (t : GType) : GType := bif rightT t then ⟨t.name, t.lists, bits .andNot .i64 t.musts 1⟩ else t
def mustT (t : GType) : GType := bif rightT t then ⟨t.name, t.lists, bits .or .i64 t.musts 1⟩ else t
theorem wrap_Bare_ok (t : GType) (h : TOk t) : wrap_Bare t = some (bareT t) := by
  apply wrap_Bare_run
  simp only [wrap_Bare_B, wrap_Right_ok t h, bnd_s, bareT]
  cases rightT t <;> rfl
theorem wrap_Must_ok (t : GType) (h : TOk t) : wrap_Must t = some (mustT t) := by
  apply wrap_Must_run
  simp only [wrap_Must_B, wrap_Right_ok t h, bnd_s, mustT]
  cases rightT t <;> rfl
theorem seineref1_Bare_ok (t : GType) (h : TOk t) : seineref1_Bare t = some (bareT t) := by
  apply seineref1_Bare_run
  simp only [seineref1_Bare_B, seineref1_RightType_ok t h, bnd_s, bareT]
  cases rightT t <;> rfl
def subT (a b : GType) : Bool := rightT a && (rightT b && (a.name == b.name && (a.lists == b.lists && bits .andNot .i64 b.musts a.musts == 0)))
theorem wrap_Sub_ok (a b : GType) (ha : TOk a) (hb : TOk b) : wrap_Sub a b = some (subT a b) := by
  apply wrap_Sub_run
  simp only [wrap_Sub_B, wrap_Right_ok a ha, wrap_Right_ok b hb, bnd_s, subT]
  cases rightT a <;> cases rightT b <;> cases a.name == b.name <;> cases a.lists == b.lists <;> rfl
theorem seineref1_SubType_ok (a b : GType) (ha : TOk a) (hb : TOk b) : seineref1_SubType a b = some (subT a b) := by
  apply seineref1_SubType_run
  simp only [seineref1_SubType_B, seineref1_RightType_ok a ha, seineref1_RightType_ok b hb, bnd_s, subT]
  cases rightT a <;> cases rightT b <;> cases a.name == b.name <;> cases a.lists == b.lists <;> rfl
theorem bits_range (op : BinOp) (a b : Int) : -9223372036854775808 ≤ bits op .i64 a b ∧ bits op .i64 a b ≤ 9223372036854775807 := by
  have key : ∀ n : Int, -9223372036854775808 ≤ IntKind.wrap .i64 n ∧ IntKind.wrap .i64 n ≤ 9223372036854775807 := by
    intro n; rw [IntKind.wrap_i64]; omega
  unfold bits
  cases op <;> exact key _
theorem TOk.bare {t : GType} (h : TOk t) : TOk (bareT t) := by
  unfold bareT
  cases rightT t
  · exact h
  · show TOk ⟨t.name, t.lists, bits .andNot .i64 t.musts 1⟩
    exact ⟨h.1, bits_range .andNot t.musts 1, h.2.2⟩
theorem TOk.must {t : GType} (h : TOk t) : TOk (mustT t) := by
  unfold mustT
  cases rightT t
  · exact h
  · show TOk ⟨t.name, t.lists, bits .or .i64 t.musts 1⟩
    exact ⟨h.1, bits_range .or t.musts 1, h.2.2⟩

theorem small_bits : ∀ (l : Fin 5) (m : Fin 32), m.val < 2 ^ (l.val + 1) →
    (0 ≤ bits .or .i64 (m.val : Int) 1 ∧ bits .or .i64 (m.val : Int) 1 < 2 ^ (l.val + 1)) ∧ (0 ≤ bits .andNot .i64 (m.val : Int) 1 ∧ bits .andNot .i64 (m.val : Int) 1 < 2 ^ (l.val + 1)) ∧
    bit0 (bits .or .i64 (m.val : Int) 1) = true ∧ bits .andNot .i64 (bits .andNot .i64 (m.val : Int) 1) (bits .or .i64 (m.val : Int) 1) = 0 ∧
    bits .andNot .i64 (m.val : Int) (m.val : Int) = 0 ∧ bits .andNot .i64 (bits .or .i64 (m.val : Int) 1) (bits .or .i64 (m.val : Int) 1) = 0 := by decide +kernel
theorem right_bits {t : GType} (h : rightT t = true) : rightT ⟨t.name, t.lists, bits .or .i64 t.musts 1⟩ = true ∧ rightT ⟨t.name, t.lists, bits .andNot .i64 t.musts 1⟩ = true ∧ bit0 (bits .or .i64 t.musts 1) = true ∧
    bits .andNot .i64 (bits .andNot .i64 t.musts 1) (bits .or .i64 t.musts 1) = 0 ∧ bits .andNot .i64 t.musts t.musts = 0 ∧ bits .andNot .i64 (bits .or .i64 t.musts 1) (bits .or .i64 t.musts 1) = 0 := by
  obtain ⟨h1, h2, h3, h4, h5⟩ := (rightT_iff t).1 h
  obtain ⟨l, hl⟩ := Int.eq_ofNat_of_zero_le h2
  obtain ⟨m, hm⟩ := Int.eq_ofNat_of_zero_le h4
  rw [hl] at h3 h5
  rw [hm] at h5
  simp only [Int.toNat_natCast] at h5
  have h5' : m < 2 ^ (l + 1) := by exact_mod_cast h5
  have hl5 : l < 5 := by omega
  have hm5 : m < 32 := Nat.lt_of_lt_of_le h5' (by
    have : 2 ^ (l + 1) ≤ 2 ^ 5 := Nat.pow_le_pow_right (by decide) (by omega)
    exact this)
  obtain ⟨k1, k2, k3, k4, k5, k6⟩ := small_bits ⟨l, hl5⟩ ⟨m, hm5⟩ h5'
  simp only at k1 k2 k3 k4 k5 k6
  simp only [rightT_iff, hl, hm, Int.toNat_natCast]
  exact ⟨⟨h1, by omega, by omega, k1⟩, ⟨h1, by omega, by omega, k2⟩, k3, k4, k5, k6⟩
end Go.Proofs.Ytdnghbdhbahmeaa

/-
  Layer 4: print and read, of the typed functions.
-/
set_option linter.unusedVariables false
set_option linter.unusedSimpArgs false
open Go Go.Ev
namespace Go.Proofs.Ytdnghbdhbahmeaa

/-- A loop that goes on as long as what stands there is so. -/
theorem loop_scan {α : Type} {b : Int → Option (Int ⊕ Int)} (s : List α) (p : α → Bool) (hl : Sm s) (hend : b (s.length : Int) = some (.inr (s.length : Int)))
    (hstep : ∀ (k : Nat) x, k < s.length → decide ((k : Int) < (s.length : Int)) = true → nthI s (k : Int) = some x → IntKind.wrap .i64 ((k : Int) + 1) = ((k + 1 : Nat) : Int) → b k = some (bif p x then .inl ((k + 1 : Nat) : Int) else .inr (k : Int))) :
    ∀ k : Nat, k ≤ s.length → tloop b (k : Int) = some ((k + ((s.drop k).takeWhile p).length : Nat) : Int) := by
  have key : ∀ (n k : Nat), s.length - k ≤ n → k ≤ s.length → tloop b (k : Int) = some ((k + ((s.drop k).takeWhile p).length : Nat) : Int) := by
    intro n
    induction n with
    | zero =>
      intro k h1 h2
      have : k = s.length := by omega
      subst this
      rw [tloop_exit hend]; simp
    | succ n ih =>
      intro k h1 h2
      by_cases hk : k = s.length
      · subst hk; rw [tloop_exit hend]; simp
      · have hlt : k < s.length := by omega
        have hx : nthI s (k : Int) = some s[k] := by rw [nthI_nat]; exact List.getElem?_eq_getElem hlt
        have hs := hstep k s[k] hlt (by simp; omega) hx (wadd (by have := hl; unfold Sm at this; omega))
        rw [List.drop_eq_getElem_cons hlt, List.takeWhile_cons]
        cases hp : p s[k]
        · rw [hp] at hs
          rw [tloop_exit hs]; simp
        · rw [hp] at hs
          rw [tloop_next (s' := ((k + 1 : Nat) : Int)) hs, ih (k + 1) (by omega) (by omega)]
          simp; omega
  exact fun k hk => key _ k (Nat.le_refl _) hk
theorem takeWhile_stop {α : Type} (p : α → Bool) : ∀ (l m : List α), l.all p = true → (∀ x r, m = x :: r → p x = false) → (l ++ m).takeWhile p = l
  | [], m, _, h => by
    cases m with
    | nil => rfl
    | cons x r => rw [List.nil_append, List.takeWhile_cons, h x r rfl]; simp
  | x :: l, m, hl, h => by
    rw [List.all_cons, Bool.and_eq_true] at hl
    rw [List.cons_append, List.takeWhile_cons, hl.1, takeWhile_stop p l m hl.2 h]; simp

/-! what is written behind a name -/
def bitA (m : Int) (k : Nat) : Bool := bits .and .i64 (m.fdiv (2 ^ min k 64)) 1 == 1
theorem wrap_bit_nat (t : GType) (k : Nat) : wrap_bit t (k : Int) = some (bitA t.musts k) := by
  apply wrap_bit_run
  simp only [wrap_bit_B, tshr, if_neg (show ¬ ((k : Int) < 0) by omega), bnd_s, IntKind.bits, bitA, Int.toNat_natCast]
/-- One place: the end of a list, and whether it must be there. -/
def part1 (n k : Nat) (b : Bool) : Str := (bif decide (k < n) then [93] else []) ++ (bif b then [33] else [])
def strF (n : Nat) (f : Nat → Bool) : Nat → Str
  | 0 => part1 n 0 (f 0)
  | k + 1 => part1 n (k + 1) (f (k + 1)) ++ strF n f k
def strL (n : Nat) : List Bool → Str
  | [] => []
  | b :: bs => part1 n bs.length b ++ strL n bs
def bitsL (m : Int) : Nat → List Bool
  | 0 => [bitA m 0]
  | k + 1 => bitA m (k + 1) :: bitsL m k
theorem bitsL_length (m : Int) : ∀ k, (bitsL m k).length = k + 1
  | 0 => rfl
  | k + 1 => by simp [bitsL, bitsL_length m k]
theorem strF_bits (n : Nat) (m : Int) : ∀ k, strF n (bitA m) k = strL n (bitsL m k)
  | 0 => by simp [strF, bitsL, strL]
  | k + 1 => by simp only [strF, bitsL, strL, bitsL_length, strF_bits n m k]
/-- The number that bits are. -/
def orL (acc : Int) : List Bool → Int
  | [] => acc
  | b :: bs => orL (bif b then bits .or .i64 acc (IntKind.wrap .i64 (1 * 2 ^ min bs.length 64)) else acc) bs
theorem or_bits : ∀ (l : Fin 5) (m : Fin 32), m.val < 2 ^ (l.val + 1) → orL 0 (bitsL (m.val : Int) l.val) = (m.val : Int) := by decide +kernel
theorem or_all : ∀ (l : Fin 5) (a b c d e : Bool), 0 ≤ orL 0 ([a, b, c, d, e].drop (4 - l.val)) ∧ orL 0 ([a, b, c, d, e].drop (4 - l.val)) < 2 ^ (l.val + 1) ∧ bitsL (orL 0 ([a, b, c, d, e].drop (4 - l.val))) l.val = [a, b, c, d, e].drop (4 - l.val) := by decide +kernel
theorem five (l : Nat) (hl : l < 5) (bs : List Bool) (h : bs.length = l + 1) : ∃ a b c d e : Bool, bs = [a, b, c, d, e].drop (4 - l) := by
  have h5 : l = 0 ∨ l = 1 ∨ l = 2 ∨ l = 3 ∨ l = 4 := by omega
  rcases h5 with rfl | rfl | rfl | rfl | rfl
  · match bs, h with
    | [a], _ => exact ⟨a, a, a, a, a, rfl⟩
  · match bs, h with
    | [a, b], _ => exact ⟨a, a, a, a, b, rfl⟩
  · match bs, h with
    | [a, b, c], _ => exact ⟨a, a, a, b, c, rfl⟩
  · match bs, h with
    | [a, b, c, d], _ => exact ⟨a, a, b, c, d, rfl⟩
  · match bs, h with
    | [a, b, c, d, e], _ => exact ⟨a, b, c, d, e, rfl⟩
theorem or_len (l : Nat) (hl : l < 5) (bs : List Bool) (h : bs.length = l + 1) : 0 ≤ orL 0 bs ∧ orL 0 bs < 2 ^ (l + 1) ∧ bitsL (orL 0 bs) l = bs := by
  obtain ⟨a, b, c, d, e, rfl⟩ := five l hl bs h
  exact or_all ⟨l, hl⟩ a b c d e
def printT (t : GType) : Str := List.replicate t.lists.toNat 91 ++ (t.name ++ strF t.lists.toNat (bitA t.musts) t.lists.toNat)
def ptext (t : GType) : Str := bif rightT t then printT t else []
theorem part1_len (n k : Nat) (b : Bool) : (part1 n k b).length ≤ 2 := by unfold part1; cases decide (k < n) <;> cases b <;> simp
theorem strF_len (n : Nat) (f : Nat → Bool) : ∀ k, (strF n f k).length ≤ 2 * (k + 1)
  | 0 => part1_len _ _ _
  | k + 1 => by have := strF_len n f k; have := part1_len n (k + 1) (f (k + 1)); simp only [strF, List.length_append]; omega
theorem wneg {k : Nat} (h : k < 1073741824) : IntKind.wrap .i64 ((k : Int) - 1) = (k : Int) - 1 := wi (by omega)
theorem print_loop (t : GType) (hl : 0 ≤ t.lists ∧ t.lists ≤ 4) : ∀ (k : Nat) (s : Str), k ≤ 4 → s.length + 2 * (k + 1) ≤ 274877906944 → tloop (wrap_Print_l1T t) (s, (k : Int)) = some (s ++ strF t.lists.toNat (bitA t.musts) k) := by
  have step : ∀ (k : Nat) (s : Str), k ≤ 4 → s.length + 2 * (k + 1) ≤ 274877906944 → wrap_Print_l1T t (s, (k : Int)) = some (.inl (s ++ part1 t.lists.toNat k (bitA t.musts k), (k : Int) - 1)) := by
    intro k s hk hs
    have e1 : decide ((k : Int) ≥ 0) = true := by simp
    have e2 : decide ((k : Int) < t.lists) = decide (k < t.lists.toNat) := by rw [Bool.eq_iff_iff]; simp <;> omega
    have e3 : ∀ c : UInt8, tapp s [c] = some (s ++ [c]) := fun c => tapp_ok (by simp [lim_val] <;> omega)
    have e4 : ∀ c d : UInt8, tapp (s ++ [c]) [d] = some (s ++ [c] ++ [d]) := fun c d => tapp_ok (by simp [lim_val] <;> omega)
    simp only [wrap_Print_l1T, e1, cnd_t, e2, e3, e4, bnd_s, wrap_bit_nat, wneg (show k < 1073741824 by omega), part1]
    cases decide (k < t.lists.toNat) <;> cases bitA t.musts k <;> simp [cnd]
  intro k
  induction k with
  | zero =>
    intro s _ hs
    rw [tloop_next (step 0 s (by omega) (by omega))]
    have e1 : decide (((0 : Nat) : Int) - 1 ≥ 0) = false := by simp
    rw [tloop_exit (r := s ++ part1 t.lists.toNat 0 (bitA t.musts 0)) (by simp only [wrap_Print_l1T, e1, cnd_f])]
    rfl
  | succ k ih =>
    intro s hk hs
    rw [tloop_next (step (k + 1) s hk (by omega))]
    have e1 : ((k + 1 : Nat) : Int) - 1 = (k : Int) := by omega
    have e2 := part1_len t.lists.toNat (k + 1) (bitA t.musts (k + 1))
    rw [e1, ih _ (by omega) (by rw [List.length_append]; omega)]
    simp only [strF, List.append_assoc]
theorem flatten_one (c : UInt8) : ∀ n, (List.replicate n [c]).flatten = List.replicate n c
  | 0 => rfl
  | n + 1 => by rw [List.replicate_succ, List.flatten_cons, flatten_one c n]; rfl
theorem wrap_Print_ok (t : GType) (h : TOk t) (hn : t.name.length ≤ 1073741824) : wrap_Print t = some (ptext t, rightT t) := by
  apply wrap_Print_run (r := (_, _))
  simp only [wrap_Print_B, wrap_Right_ok t h, bnd_s, ptext]
  cases hr : rightT t
  · rfl
  obtain ⟨h1, h2, h3, h4, h5⟩ := (rightT_iff t).1 hr
  obtain ⟨l, hl⟩ := Int.eq_ofNat_of_zero_le h2
  have e1 : strings_Repeat [91] t.lists = some (List.replicate l 91) := by
    apply strings_Repeat_run
    unfold tRepeat
    rw [if_pos ⟨h2, by omega, by simp; omega⟩, flatten_one, hl]; rfl
  have e2 : tapp (List.replicate l 91) t.name = some (List.replicate l 91 ++ t.name) := tapp_ok (by simp [lim_val] <;> omega)
  have e3 := print_loop t ⟨h2, h3⟩ l (List.replicate l 91 ++ t.name) (by omega) (by simp; omega)
  simp only [Bool.not_true, cnd_f, e1, bnd_s, e2]
  conv at e3 => lhs; rw [← hl]
  rw [e3]
  simp [printT, hl]
theorem printed_loop (t : GType) (hl : 0 ≤ t.lists ∧ t.lists ≤ 4) : ∀ (k : Nat) (s : Str), k ≤ t.lists.toNat → s.length + 3 * (k + 1) ≤ 274877906944 →
    tloop (seineref1_PrintType_l1T t) (s, (k : Int)) = some (List.replicate (min (k + 1) t.lists.toNat) 91 ++ (s ++ strF t.lists.toNat (bitA t.musts) k)) := by
  have step : ∀ (k : Nat) (s : Str), k ≤ 4 → s.length + 3 * (k + 1) ≤ 274877906944 → seineref1_PrintType_l1T t (s, (k : Int)) = some (.inl (List.replicate (bif decide (k < t.lists.toNat) then 1 else 0) 91 ++ (s ++ part1 t.lists.toNat k (bitA t.musts k)), (k : Int) - 1)) := by
    intro k s hk hs
    have e1 : decide ((k : Int) ≥ 0) = true := by simp
    have e2 : decide ((k : Int) < t.lists) = decide (k < t.lists.toNat) := by rw [Bool.eq_iff_iff]; simp <;> omega
    have e0 : tapp ([91] : Str) s = some (91 :: s) := tapp_ok (by simp [lim_val] <;> omega)
    have e3 : ∀ c : UInt8, tapp s [c] = some (s ++ [c]) := fun c => tapp_ok (by simp [lim_val] <;> omega)
    have e4 : ∀ c : UInt8, tapp (91 :: s) [c] = some (91 :: (s ++ [c])) := fun c => tapp_ok (by simp [lim_val] <;> omega)
    have e5 : ∀ c d : UInt8, tapp (91 :: (s ++ [c])) [d] = some (91 :: (s ++ [c] ++ [d])) := fun c d => tapp_ok (by simp [lim_val] <;> omega)
    have e6 : IntKind.wrap .u64 (k : Int) = (k : Int) := by rw [wu]; omega
    have e7 : tshr .i64 t.musts (k : Int) = some (t.musts.fdiv (2 ^ min k 64)) := by
      simp only [tshr, if_neg (show ¬ ((k : Int) < 0) by omega), IntKind.bits, Int.toNat_natCast]
    have e8 : (bits .and .i64 (t.musts.fdiv (2 ^ min k 64)) 1 == 1) = bitA t.musts k := rfl
    simp only [seineref1_PrintType_l1T, e1, cnd_t, e2, e0, e3, e4, e5, e6, e7, bnd_s, e8, wneg (show k < 1073741824 by omega), part1]
    cases decide (k < t.lists.toNat) <;> cases bitA t.musts k <;> simp [cnd]
  intro k
  induction k with
  | zero =>
    intro s _ hs
    rw [tloop_next (step 0 s (by omega) (by omega))]
    have e1 : decide (((0 : Nat) : Int) - 1 ≥ 0) = false := by simp
    rw [tloop_exit (by simp only [seineref1_PrintType_l1T, e1, cnd_f]; rfl)]
    have : (bif decide (0 < t.lists.toNat) then 1 else 0) = min (0 + 1) t.lists.toNat := by
      by_cases h : 0 < t.lists.toNat
      · simp [h]; omega
      · simp [h]; omega
    rw [this]; rfl
  | succ k ih =>
    intro s hk hs
    rw [tloop_next (step (k + 1) s (by omega) (by omega))]
    have e1 : ((k + 1 : Nat) : Int) - 1 = (k : Int) := by omega
    have e2 := part1_len t.lists.toNat (k + 1) (bitA t.musts (k + 1))
    have e3 : (bif decide (k + 1 < t.lists.toNat) then 1 else 0) ≤ 1 := by cases decide (k + 1 < t.lists.toNat) <;> simp
    rw [e1, ih _ (by omega) (by rw [List.length_append, List.length_append, List.length_replicate]; omega)]
    have e4 : min (k + 1 + 1) t.lists.toNat = min (k + 1) t.lists.toNat + (bif decide (k + 1 < t.lists.toNat) then 1 else 0) := by
      by_cases h : k + 1 < t.lists.toNat
      · simp [h]; omega
      · simp [h]; omega
    rw [e4, ← List.replicate_append_replicate]
    simp only [strF, List.append_assoc]
theorem seineref1_PrintType_ok (t : GType) (h : TOk t) (hn : t.name.length ≤ 1073741824) : seineref1_PrintType t = some (ptext t, rightT t) := by
  apply seineref1_PrintType_run (r := (_, _))
  simp only [seineref1_PrintType_B, seineref1_RightType_ok t h, bnd_s, ptext]
  cases hr : rightT t
  · rfl
  obtain ⟨h1, h2, h3, h4, h5⟩ := (rightT_iff t).1 hr
  have e3 := printed_loop t ⟨h2, h3⟩ t.lists.toNat t.name (by omega) (by omega)
  rw [Int.toNat_of_nonneg h2] at e3
  simp only [Bool.not_true, cnd_f, e3, bnd_s]
  rw [show min (t.lists.toNat + 1) t.lists.toNat = t.lists.toNat by omega]
  rfl

/-! reading -/
theorem hasPrefix1 (s : Str) (c : UInt8) : strings_HasPrefix s [c] = some (s.head? == some c) := by
  apply strings_HasPrefix_run
  have : stringslite_HasPrefix s [c] = some (s.head? == some c) := by
    apply stringslite_HasPrefix_run
    cases s with
    | nil => rfl
    | cons x s =>
      have e1 : decide ((List.length (x :: s) : Int) ≥ (List.length [c] : Int)) = true := by simp; omega
      have e2 : tslc (x :: s) 0 (List.length [c] : Int) = some [x] := by rw [tslc_ok (by simp; omega)]; rfl
      simp only [stringslite_HasPrefix_B, e1, cnd_t, e2, bnd_s]
      congr 1
      rw [Bool.eq_iff_iff]; simp
  simp only [strings_HasPrefix_B, this, bnd_s]
theorem hasPrefixL (s : Str) (c : UInt8) : stringslite_HasPrefix s [c] = some (s.head? == some c) := by
    apply stringslite_HasPrefix_run
    cases s with
    | nil => rfl
    | cons x s =>
      have e1 : decide ((List.length (x :: s) : Int) ≥ (List.length [c] : Int)) = true := by simp; omega
      have e2 : tslc (x :: s) 0 (List.length [c] : Int) = some [x] := by rw [tslc_ok (by simp; omega)]; rfl
      simp only [stringslite_HasPrefix_B, e1, cnd_t, e2, bnd_s]
      congr 1
      rw [Bool.eq_iff_iff]; simp
theorem tslc_tail (x : UInt8) (s : Str) : tslc (x :: s) 1 (List.length (x :: s) : Int) = some s := by
  rw [tslc_ok (by simp; omega)]; simp
theorem trimPrefix1 (s : Str) (c : UInt8) : strings_TrimPrefix s [c] = some (bif s.head? == some c then s.tail else s) := by
  apply strings_TrimPrefix_run
  have : stringslite_TrimPrefix s [c] = some (bif s.head? == some c then s.tail else s) := by
    apply stringslite_TrimPrefix_run
    simp only [stringslite_TrimPrefix_B, hasPrefixL, bnd_s]
    cases s with
    | nil => rfl
    | cons x s =>
      cases hx : (x :: s).head? == some c
      · rfl
      · have := tslc_tail x s
        rw [show ((List.length [c] : Nat) : Int) = 1 from rfl, this]; rfl
  simp only [strings_TrimPrefix_B, this, bnd_s]
def trim1 (n k : Nat) (r : Str) : Str := bif decide (k < n) then (bif r.head? == some 93 then r.tail else r) else r
def bang (r : Str) : Bool := r.head? == some 33
def bangR (r : Str) : Str := bif bang r then r.tail else r
def readB (n : Nat) : Nat → Str → List Bool
  | 0, r => [bang (trim1 n 0 r)]
  | k + 1, r => bang (trim1 n (k + 1) r) :: readB n k (bangR (trim1 n (k + 1) r))
theorem readB_length (n : Nat) : ∀ (k : Nat) (r : Str), (readB n k r).length = k + 1
  | 0, _ => rfl
  | k + 1, r => by simp [readB, readB_length n k]
theorem read_loop (n : Nat) : ∀ (k : Nat) (r : Str) (acc : Int), k ≤ 4 → tloop (wrap_Read_l3T (n : Int)) (r, (k : Int), acc) = some (orL acc (readB n k r)) := by
  have step : ∀ (k : Nat) (r : Str) (acc : Int), k ≤ 4 → wrap_Read_l3T (n : Int) (r, (k : Int), acc) = some (.inl (bangR (trim1 n k r), (k : Int) - 1, bif bang (trim1 n k r) then bits .or .i64 acc (IntKind.wrap .i64 (1 * 2 ^ min k 64)) else acc)) := by
    intro k r acc hk
    have e1 : decide ((k : Int) ≥ 0) = true := by simp
    have e2 : decide ((k : Int) < (n : Int)) = decide (k < n) := by rw [Bool.eq_iff_iff]; simp
    have e3 : tshl .i64 1 (k : Int) = some (IntKind.wrap .i64 (1 * 2 ^ min k 64)) := by simp only [tshl, if_neg (show ¬ ((k : Int) < 0) by omega), IntKind.bits, Int.toNat_natCast]
    have e4 : ∀ q : Str, bang q = true → tslc q 1 (List.length q : Int) = some q.tail := by
      intro q hq
      cases q with
      | nil => simp [bang] at hq
      | cons x q => exact tslc_tail x q
    have e5 : ∀ q : Str, (q.head? == some (33 : UInt8)) = bang q := fun _ => rfl
    simp only [wrap_Read_l3T, e1, cnd_t, e2, trimPrefix1, hasPrefix1, bnd_s, e3, e5, wneg (show k < 1073741824 by omega), trim1, bangR]
    cases hd : decide (k < n)
    · cases hb : bang r
      · simp only [cnd_f, cond_false, hb]
      · simp only [cnd_f, cnd_t, cond_false, cond_true, hb, e4 r hb, bnd_s]
    · simp only [cnd_t, cond_true]
      cases hb : bang (bif r.head? == some 93 then r.tail else r)
      · simp only [cnd_f, cond_false]
      · simp only [cnd_f, cnd_t, cond_false, cond_true, hb, e4 _ hb, bnd_s]
  intro k
  induction k with
  | zero =>
    intro r acc _
    rw [tloop_next (step 0 r acc (by omega))]
    have e1 : decide (((0 : Nat) : Int) - 1 ≥ 0) = false := by simp
    rw [tloop_exit (by simp only [wrap_Read_l3T, e1, cnd_f]; rfl)]
    rfl
  | succ k ih =>
    intro r acc hk
    rw [tloop_next (step (k + 1) r acc hk)]
    have e1 : ((k + 1 : Nat) : Int) - 1 = (k : Int) := by omega
    rw [e1, ih _ _ (by omega)]
    simp only [readB, orL, readB_length]
theorem strL_head (n : Nat) (bs : List Bool) (h : bs.length ≤ n) : (strL n bs).head? ≠ some 33 := by
  cases bs with
  | nil => simp [strL]
  | cons b bs =>
    simp only [List.length_cons] at h
    simp [strL, part1, show bs.length < n by omega]
theorem peeled (n : Nat) (b : Bool) (bs : List Bool) : trim1 n bs.length (strL n (b :: bs)) = (bif b then [33] else []) ++ strL n bs ∨ (bs.length ≥ n ∧ strL n (b :: bs) = (bif b then [33] else []) ++ strL n bs) := by
  by_cases h : bs.length < n
  · left; simp [trim1, strL, part1, h]
  · right; simp [strL, part1, h]; omega
theorem trim_part (n : Nat) (b : Bool) (bs : List Bool) : trim1 n bs.length (strL n (b :: bs)) = (bif b then [33] else []) ++ strL n bs := by
  rcases peeled n b bs with h | ⟨h1, h2⟩
  · exact h
  · unfold trim1
    rw [h2]
    simp [show ¬ bs.length < n by omega]
theorem bang_part (n : Nat) (b : Bool) (bs : List Bool) (h : bs.length ≤ n) : bang ((bif b then [33] else []) ++ strL n bs) = b ∧ bangR ((bif b then [33] else []) ++ strL n bs) = strL n bs := by
  cases b
  · have : bang (strL n bs) = false := by simpa [bang] using strL_head n bs h
    simp [bangR, this]
  · constructor
    · simp [bang]
    · simp [bangR, bang]
theorem readB_str (n : Nat) : ∀ (k : Nat) (bs : List Bool), bs.length = k + 1 → k ≤ n → readB n k (strL n bs) = bs
  | 0, [b], _, _ => by
    have h1 := trim_part n b []
    have h2 := bang_part n b [] (by simp)
    simp only [readB]
    rw [show trim1 n 0 (strL n [b]) = _ from h1, h2.1]
  | k + 1, b :: bs, h, hk => by
    simp only [List.length_cons, Nat.add_right_cancel_iff] at h
    have h1 := trim_part n b bs
    have h2 := bang_part n b bs (by omega)
    rw [h] at h1
    simp only [readB, h1, h2, readB_str n k bs h (by omega)]
def isOpen (c : UInt8) : Bool := c == 91
def notEnd (c : UInt8) : Bool := !(c == 93) && !(c == 33)
theorem u8_int (c : UInt8) (n : Nat) (h : n < 256) : ((c.toNat : Int) == (n : Int)) = (c == UInt8.ofNat n) := by
  rw [Bool.eq_iff_iff]
  simp only [beq_iff_eq]
  constructor
  · intro e
    have : c.toNat = n := by omega
    rw [← this]; simp
  · rintro rfl
    simp [UInt8.toNat_ofNat, Nat.mod_eq_of_lt h]
theorem open_scan (s : Str) (h : Sm s) : tloop (wrap_Read_l1T s) 0 = some (((s.takeWhile isOpen).length : Nat) : Int) := by
  have := loop_scan (b := wrap_Read_l1T s) s isOpen h (by simp only [wrap_Read_l1T, end_lt, cnd_f])
    (fun k x hk h1 h2 h3 => by
      have e := u8_int x 91 (by decide)
      simp only [wrap_Read_l1T, h1, h2, h3, cnd_t, bnd_s]
      rw [show (91 : Int) = ((91 : Nat) : Int) from rfl, e]
      show cnd (isOpen x) _ _ = _
      cases isOpen x <;> rfl) 0 (by omega)
  simpa using this
theorem open_scan' (s : Str) (h : Sm s) : tloop (seineref1_ReadType_l1T s) 0 = some (((s.takeWhile isOpen).length : Nat) : Int) := by
  have := loop_scan (b := seineref1_ReadType_l1T s) s isOpen h (by simp only [seineref1_ReadType_l1T, end_lt, cnd_f])
    (fun k x hk h1 h2 h3 => by
      have e := u8_int x 91 (by decide)
      simp only [seineref1_ReadType_l1T, h1, h2, h3, cnd_t, bnd_s]
      rw [show (91 : Int) = ((91 : Nat) : Int) from rfl, e]
      show cnd (isOpen x) _ _ = _
      cases isOpen x <;> rfl) 0 (by omega)
  simpa using this
theorem end_scan (s : Str) (h : Sm s) (k : Nat) (hk : k ≤ s.length) : tloop (wrap_Read_l2T s) (k : Int) = some ((k + ((s.drop k).takeWhile notEnd).length : Nat) : Int) := by
  exact loop_scan (b := wrap_Read_l2T s) s notEnd h (by simp only [wrap_Read_l2T, end_lt, cnd_f])
    (fun k x hk h1 h2 h3 => by
      have e := u8_int x 93 (by decide)
      have e' := u8_int x 33 (by decide)
      simp only [wrap_Read_l2T, h1, h2, h3, cnd_t, bnd_s, bne]
      rw [show (93 : Int) = ((93 : Nat) : Int) from rfl, e, show (33 : Int) = ((33 : Nat) : Int) from rfl, e']
      show _ = some (bif !(x == UInt8.ofNat 93) && !(x == UInt8.ofNat 33) then _ else _)
      cases x == UInt8.ofNat 93 <;> cases x == UInt8.ofNat 33 <;> rfl) k hk
theorem name_scan (s : Str) (h : Sm s) (k : Nat) (hk : k ≤ s.length) : tloop (seineref1_ReadType_l2T s) (k : Int) = some ((k + ((s.drop k).takeWhile inName).length : Nat) : Int) := by
  exact loop_scan (b := seineref1_ReadType_l2T s) s inName h (by simp only [seineref1_ReadType_l2T, end_lt, cnd_f])
    (fun k x hk h1 h2 h3 => by
      simp only [seineref1_ReadType_l2T, h1, h2, h3, cnd_t, bnd_s, seineref1_start_ok, seineref1_digit_ok, inName]
      cases letter x.toNat <;> cases digit x.toNat <;> rfl) k hk
/-- Where a text is cut. -/
theorem cut3 {s : Str} (p q : UInt8 → Bool) : s = s.takeWhile p ++ ((s.drop (s.takeWhile p).length).takeWhile q ++ s.drop ((s.takeWhile p).length + ((s.drop (s.takeWhile p).length).takeWhile q).length)) := by
  have h1 : ∀ (p : UInt8 → Bool) (s : Str), s = s.takeWhile p ++ s.drop (s.takeWhile p).length := by
    intro p s
    induction s with
    | nil => rfl
    | cons x s ih =>
      rw [List.takeWhile_cons]
      cases p x
      · rfl
      · simp only [if_true, List.cons_append, List.length_cons, List.drop_succ_cons]
        rw [← ih]
  conv => lhs; rw [h1 p s]
  congr 1
  rw [← List.drop_drop]
  exact h1 q _
theorem takeWhile_len {α : Type} (p : α → Bool) : ∀ l : List α, (l.takeWhile p).length ≤ l.length
  | [] => by simp
  | x :: l => by rw [List.takeWhile_cons]; have := takeWhile_len p l; cases p x <;> simp <;> omega
theorem read_general (s : Str) (h : s.length ≤ 1073741824) :
    (∃ t, rightT t = true ∧ printT t = s ∧ wrap_Read s = some (t, true)) ∨ wrap_Read s = some (⟨[], 0, 0⟩, false) := by
  have sm : Sm s := by unfold Sm; omega
  obtain ⟨n, hn⟩ : ∃ n, n = (s.takeWhile isOpen).length := ⟨_, rfl⟩
  obtain ⟨e, he⟩ : ∃ e, e = ((s.drop n).takeWhile notEnd).length := ⟨_, rfl⟩
  have hn1 : n ≤ s.length := by rw [hn]; exact takeWhile_len _ _
  have he1 : n + e ≤ s.length := by have := takeWhile_len notEnd (s.drop n); simp at this; omega
  have l1 := open_scan s sm
  have l2 := end_scan s sm n hn1
  rw [← hn] at l1
  rw [← he] at l2
  have t1 : tslc s (n : Int) ((n + e : Nat) : Int) = some ((s.take (n + e)).drop n) := by rw [tslc_ok (by omega)]; simp only [Int.toNat_natCast]
  have t2 : tslc s ((n + e : Nat) : Int) (s.length : Int) = some (s.drop (n + e)) := by rw [tslc_ok (by omega)]; simp only [Int.toNat_natCast, List.take_length]
  by_cases h4 : n ≤ 4
  · have e4 : decide ((n : Int) > 4) = false := by simp; omega
    obtain ⟨m, hm⟩ : ∃ m, m = orL 0 (readB n n (s.drop (n + e))) := ⟨_, rfl⟩
    have l3 := read_loop n n (s.drop (n + e)) 0 h4
    rw [← hm] at l3
    obtain ⟨m1, m2, m3⟩ := or_len n (by omega) (readB n n (s.drop (n + e))) (readB_length _ _ _)
    rw [← hm] at m1 m2
    obtain ⟨nm, hnm⟩ : ∃ nm, nm = (s.take (n + e)).drop n := ⟨_, rfl⟩
    have lnm : nm.length ≤ 1073741824 := by rw [hnm]; simp; omega
    have ok : TOk ⟨nm, n, m⟩ := by
      refine ⟨⟨by show (-9223372036854775808 : Int) ≤ (n : Int); omega, by show (n : Int) ≤ 9223372036854775807; omega⟩, ⟨?_, ?_⟩, ?_⟩
      · show (-9223372036854775808 : Int) ≤ m; omega
      · show m ≤ 9223372036854775807
        have : (2 : Int) ^ (n + 1) ≤ 2 ^ 5 := by
          have : (2 : Nat) ^ (n + 1) ≤ 2 ^ 5 := Nat.pow_le_pow_right (by decide) (by omega)
          exact_mod_cast this
        omega
      · show nm.length < 4611686018427387904; omega
    have pr := wrap_Print_ok ⟨nm, n, m⟩ ok lnm
    have body : wrap_Read_B s = (cnd (!(rightT ⟨nm, n, m⟩)) (some ((GType.mk [] 0 0), false)) (cnd (!(ptext ⟨nm, n, m⟩ == s)) (some ((GType.mk [] 0 0), false)) (some ((GType.mk nm n m), true)))) := by
      simp only [wrap_Read_B, l1, bnd_s, l2, t1, e4, cnd_f, t2, l3, ← hnm, pr]
    cases hr : rightT ⟨nm, n, m⟩
    · right; apply wrap_Read_run (r := (_, _)); rw [body, hr]; rfl
    · cases hp : ptext ⟨nm, n, m⟩ == s
      · right; apply wrap_Read_run (r := (_, _)); rw [body, hr, hp]; rfl
      · left
        refine ⟨⟨nm, n, m⟩, hr, ?_, wrap_Read_run (r := (_, _)) (by rw [body, hr, hp]; rfl)⟩
        rw [beq_iff_eq] at hp
        simpa [ptext, hr] using hp
  · right
    have e4 : decide ((n : Int) > 4) = true := by simp; omega
    apply wrap_Read_run (r := (_, _))
    simp only [wrap_Read_B, l1, bnd_s, l2, t1, e4, cnd_t]
/-- The parts of what is printed. -/
theorem printed_parts {t : GType} (h : rightT t = true) : (printT t).takeWhile isOpen = List.replicate t.lists.toNat 91 ∧ ((printT t).drop t.lists.toNat) = t.name ++ strF t.lists.toNat (bitA t.musts) t.lists.toNat ∧
    (t.name ++ strF t.lists.toNat (bitA t.musts) t.lists.toNat).takeWhile notEnd = t.name ∧ (t.name ++ strF t.lists.toNat (bitA t.musts) t.lists.toNat).takeWhile inName = t.name := by
  obtain ⟨h1, h2, h3, h4, h5⟩ := (rightT_iff t).1 h
  have hn : ∃ c r, t.name = c :: r ∧ letter c.toNat = true ∧ r.all inName = true := by
    revert h1
    cases t.name with
    | nil => simp [isName]
    | cons c r => intro h1; simp only [isName, Bool.and_eq_true] at h1; exact ⟨c, r, rfl, h1.1, h1.2⟩
  obtain ⟨c, r, hc, hl, ha⟩ := hn
  have hall : t.name.all inName = true := by rw [hc]; simp only [List.all_cons, Bool.and_eq_true]; exact ⟨by simp [inName, hl], ha⟩
  have hopen : isOpen c = false := by
    cases ho : isOpen c
    · rfl
    · simp only [isOpen, beq_iff_eq] at ho; subst ho; simp [letter] at hl
  have hne : ∀ x : UInt8, inName x = true → notEnd x = true := by
    intro x hx
    cases hq : notEnd x
    · simp only [notEnd, Bool.and_eq_false_iff, Bool.not_eq_false', beq_iff_eq] at hq
      rcases hq with rfl | rfl <;> simp [inName, letter, digit] at hx
    · rfl
  have hst : ∀ x q, strF t.lists.toNat (bitA t.musts) t.lists.toNat = x :: q → x = 93 ∨ x = 33 := by
    intro x q hx
    rw [strF_bits] at hx
    generalize bitsL t.musts t.lists.toNat = bs at hx
    have : ∀ (n : Nat) (bs : List Bool), ∀ x q, strL n bs = x :: q → x = 93 ∨ x = 33 := by
      intro n bs
      induction bs with
      | nil => intro x q h; simp [strL] at h
      | cons b bs ih =>
        intro x q h
        simp only [strL, part1] at h
        cases hd : decide (bs.length < n) <;> cases b <;> simp [hd] at h
        · exact ih x q h
        · exact .inr h.1.symm
        · exact .inl h.1.symm
        · exact .inl h.1.symm
    exact this _ bs x q hx
  refine ⟨?_, ?_, ?_, ?_⟩
  · exact takeWhile_stop _ _ _ (by simp [isOpen]) (by rw [hc]; intro x q hq; simp at hq; rw [← hq.1]; exact hopen)
  · unfold printT; rw [List.drop_append_of_le_length (by simp)]; simp
  · refine takeWhile_stop _ _ _ ?_ ?_
    · rw [List.all_eq_true] at hall ⊢; exact fun x hx => hne x (hall x hx)
    · intro x q hq; rcases hst x q hq with rfl | rfl <;> rfl
  · refine takeWhile_stop _ _ _ hall ?_
    intro x q hq; rcases hst x q hq with rfl | rfl <;> rfl
theorem right_eq {t : GType} (h : rightT t = true) : orL 0 (bitsL t.musts t.lists.toNat) = t.musts := by
  obtain ⟨h1, h2, h3, h4, h5⟩ := (rightT_iff t).1 h
  obtain ⟨m, hm⟩ := Int.eq_ofNat_of_zero_le h4
  have h5' : m < 2 ^ (t.lists.toNat + 1) := by rw [hm] at h5; exact_mod_cast h5
  have := or_bits ⟨t.lists.toNat, by omega⟩ ⟨m, Nat.lt_of_lt_of_le h5' (by
    have : 2 ^ (t.lists.toNat + 1) ≤ 2 ^ 5 := Nat.pow_le_pow_right (by decide) (by omega)
    exact this)⟩ h5'
  rw [hm]; exact this
theorem printT_len (t : GType) (h : rightT t = true) : (printT t).length ≤ t.name.length + 14 := by
  obtain ⟨h1, h2, h3, h4, h5⟩ := (rightT_iff t).1 h
  have := strF_len t.lists.toNat (bitA t.musts) t.lists.toNat
  simp only [printT, List.length_append, List.length_replicate]; omega
theorem TOk.of_right {t : GType} (h : rightT t = true) (hn : t.name.length ≤ 1073741824) : TOk t := by
  obtain ⟨h1, h2, h3, h4, h5⟩ := (rightT_iff t).1 h
  refine ⟨⟨by omega, by omega⟩, ⟨by omega, ?_⟩, by omega⟩
  have : (2 : Int) ^ (t.lists.toNat + 1) ≤ 2 ^ 5 := by
    have : (2 : Nat) ^ (t.lists.toNat + 1) ≤ 2 ^ 5 := Nat.pow_le_pow_right (by decide) (by omega)
    exact_mod_cast this
  omega
theorem wrap_Read_print (t : GType) (h : rightT t = true) (hn : t.name.length ≤ 1073741800) : wrap_Read (printT t) = some (t, true) := by
  have hlen := printT_len t h
  obtain ⟨p1, p2, p3, p4⟩ := printed_parts h
  obtain ⟨h1, h2, h3, h4, h5⟩ := (rightT_iff t).1 h
  have sm : Sm (printT t) := by unfold Sm; omega
  have ok := TOk.of_right h (by omega)
  have hle : t.lists.toNat ≤ (printT t).length := by unfold printT; simp
  have hle2 : t.lists.toNat + t.name.length ≤ (printT t).length := by unfold printT; simp <;> omega
  have l1 := open_scan (printT t) sm
  rw [p1, List.length_replicate] at l1
  have l2 := end_scan (printT t) sm t.lists.toNat hle
  rw [p2, p3] at l2
  have t1 : tslc (printT t) (t.lists.toNat : Int) ((t.lists.toNat + t.name.length : Nat) : Int) = some t.name := by
    rw [tslc_ok (by omega)]
    simp only [Int.toNat_natCast]
    rw [List.drop_take, p2]; simp
  have t2 : tslc (printT t) ((t.lists.toNat + t.name.length : Nat) : Int) ((printT t).length : Int) = some (strF t.lists.toNat (bitA t.musts) t.lists.toNat) := by
    rw [tslc_ok (by omega)]
    simp only [Int.toNat_natCast, List.take_length, ← List.drop_drop, p2]; simp
  have e4 : decide ((t.lists.toNat : Int) > 4) = false := by simp; omega
  have l3 := read_loop t.lists.toNat t.lists.toNat (strF t.lists.toNat (bitA t.musts) t.lists.toNat) 0 (by omega)
  rw [strF_bits, readB_str _ _ _ (bitsL_length _ _) (Nat.le_refl _), right_eq h, ← strF_bits] at l3
  have et : GType.mk t.name (t.lists.toNat : Int) t.musts = t := by rw [Int.toNat_of_nonneg h2]
  have pr := wrap_Print_ok t ok (by omega)
  apply wrap_Read_run (r := (_, _))
  simp only [wrap_Read_B, l1, bnd_s, l2, t1, e4, cnd_f, t2, l3, et, pr, ptext, h, cond_true, beq_self_eq_true, Bool.not_true]

/-! the reference's reader -/
def peel (n k : Nat) (r : Str) : Option Str := bif decide (k < n) then (bif r.head? == some 93 then some r.tail else none) else some r
def parseB (n : Nat) : Nat → Str → Option (List Bool × Str)
  | 0, r => bnd (peel n 0 r) fun q => some ([bang q], bangR q)
  | k + 1, r => bnd (peel n (k + 1) r) fun q => bnd (parseB n k (bangR q)) fun x => some (bang q :: x.1, x.2)
theorem bang_split (r : Str) : r = (bif bang r then [33] else []) ++ bangR r := by
  unfold bangR
  cases hb : bang r
  · rfl
  · cases r with
    | nil => simp [bang] at hb
    | cons x r => simp [bang] at hb; subst hb; rfl
theorem peel_split {n k : Nat} {r q : Str} (h : peel n k r = some q) : r = (bif decide (k < n) then [93] else []) ++ q := by
  unfold peel at h
  cases hd : decide (k < n)
  · rw [hd] at h; simp at h; subst h; rfl
  · rw [hd] at h
    cases r with
    | nil => simp at h
    | cons x r =>
      cases hx : x == 93
      · simp [hx] at h
      · simp [hx] at h; rw [beq_iff_eq] at hx; subst hx; subst h; rfl
theorem parseB_sound (n : Nat) : ∀ (k : Nat) (r : Str) (bs : List Bool) (q : Str), parseB n k r = some (bs, q) → r = strL n bs ++ q ∧ bs.length = k + 1
  | 0, r, bs, q, h => by
    simp only [parseB] at h
    obtain ⟨x, hx, h⟩ := bnd_some h
    cases h
    refine ⟨?_, rfl⟩
    conv => lhs; rw [peel_split hx, bang_split x]
    simp [strL, part1]
  | k + 1, r, bs, q, h => by
    simp only [parseB] at h
    obtain ⟨x, hx, h⟩ := bnd_some h
    obtain ⟨⟨y1, y2⟩, hy, h⟩ := bnd_some h
    cases h
    obtain ⟨i1, i2⟩ := parseB_sound n k _ _ _ hy
    refine ⟨?_, by simp [i2]⟩
    conv => lhs; rw [peel_split hx, bang_split x, i1]
    simp [strL, part1, i2]
theorem peel_part (n : Nat) (b : Bool) (bs : List Bool) : peel n bs.length (strL n (b :: bs)) = some ((bif b then [33] else []) ++ strL n bs) := by
  unfold peel
  by_cases h : bs.length < n
  · simp [strL, part1, h]
  · simp [strL, part1, h]
theorem parseB_str (n : Nat) : ∀ (k : Nat) (bs : List Bool), bs.length = k + 1 → k ≤ n → parseB n k (strL n bs) = some (bs, [])
  | 0, [b], _, _ => by
    have h1 := peel_part n b []
    have h2 := bang_part n b [] (by simp)
    simp only [parseB]
    rw [show peel n 0 (strL n [b]) = _ from h1]
    simp only [bnd_s, h2]; rfl
  | k + 1, b :: bs, h, hk => by
    simp only [List.length_cons, Nat.add_right_cancel_iff] at h
    have h1 := peel_part n b bs
    have h2 := bang_part n b bs (by omega)
    rw [h] at h1
    simp only [parseB, h1, bnd_s, h2, parseB_str n k bs h (by omega)]
def afterP (s : Str) (acc : Int) : Option (List Bool × Str) → (Int × Int) ⊕ Unit
  | none => .inr ()
  | some x => .inl (((s.length - x.2.length : Nat) : Int), orL acc x.1)
theorem drop_head (s : Str) (i : Nat) (h : i < s.length) : (s.drop i).head? = some s[i] ∧ (s.drop i).tail = s.drop (i + 1) := by
  rw [List.drop_eq_getElem_cons h]; exact ⟨rfl, rfl⟩
theorem parse_loop (s : Str) (hs : s.length ≤ 1073741824) (n : Nat) : ∀ (k i : Nat) (acc : Int), k ≤ 4 → i ≤ s.length →
    tloop (seineref1_ReadType_l3T s (n : Int)) ((i : Int), (k : Int), acc) = some (afterP s acc (parseB n k (s.drop i))) := by
  have two : ∀ (k i : Nat) (acc : Int), k ≤ 4 → i ≤ s.length → (cnd (decide ((i : Int) < (List.length s : Int)))
       (bnd (nthI s (i : Int)) fun y50 =>
       cnd ((y50.toNat : Int) == 33)
        (bnd (tshl .i64 1 (IntKind.wrap .u64 (k : Int))) fun y52 =>
        some ((.inl ((IntKind.wrap .i64 ((i : Int) + 1)), (IntKind.wrap .i64 ((k : Int) - 1)), (bits .or .i64 acc y52)) : (Int × Int × Int) ⊕ ((Int × Int) ⊕ Unit))))
        (some (.inl ((i : Int), (IntKind.wrap .i64 ((k : Int) - 1)), acc))))
       (some (.inl ((i : Int), (IntKind.wrap .i64 ((k : Int) - 1)), acc)))) =
      some (.inl (((s.length - (bangR (s.drop i)).length : Nat) : Int), (k : Int) - 1, bif bang (s.drop i) then bits .or .i64 acc (IntKind.wrap .i64 (1 * 2 ^ min k 64)) else acc)) := by
    intro k i acc hk hi
    have e3 : tshl .i64 1 (IntKind.wrap .u64 (k : Int)) = some (IntKind.wrap .i64 (1 * 2 ^ min k 64)) := by
      rw [show IntKind.wrap .u64 (k : Int) = (k : Int) by rw [wu]; omega]
      simp only [tshl, if_neg (show ¬ ((k : Int) < 0) by omega), IntKind.bits, Int.toNat_natCast]
    by_cases hlt : i < s.length
    · obtain ⟨d1, d2⟩ := drop_head s i hlt
      have e1 : decide ((i : Int) < (List.length s : Int)) = true := by simp; omega
      have e2 : nthI s (i : Int) = some s[i] := by rw [nthI_nat]; exact List.getElem?_eq_getElem hlt
      have e4 : ((s[i].toNat : Int) == 33) = bang (s.drop i) := by
        rw [show (33 : Int) = ((33 : Nat) : Int) from rfl, u8_int _ 33 (by decide)]
        unfold bang; rw [d1]
        rw [Bool.eq_iff_iff]; simp
      have e5 : IntKind.wrap .i64 ((i : Int) + 1) = ((i + 1 : Nat) : Int) := wadd (by omega)
      simp only [e1, cnd_t, e2, bnd_s, e4, e3, e5, wneg (show k < 1073741824 by omega)]
      cases hb : bang (s.drop i)
      · simp only [cnd_f, bangR, hb, cond_false, List.length_drop]
        rw [show s.length - (s.length - i) = i by omega]
      · simp only [cnd_t, bangR, hb, cond_true, d2, List.length_drop]
        rw [show s.length - (s.length - (i + 1)) = i + 1 by omega]
    · have : i = s.length := by omega
      subst this
      have e1 : decide ((s.length : Int) < (List.length s : Int)) = false := by simp
      simp only [e1, cnd_f, wneg (show k < 1073741824 by omega)]
      simp [bang, bangR]
  have step : ∀ (k i : Nat) (acc : Int), k ≤ 4 → i ≤ s.length → seineref1_ReadType_l3T s (n : Int) ((i : Int), (k : Int), acc) =
      some (match peel n k (s.drop i) with
        | none => .inr (.inr ())
        | some q => .inl (((s.length - (bangR q).length : Nat) : Int), (k : Int) - 1, bif bang q then bits .or .i64 acc (IntKind.wrap .i64 (1 * 2 ^ min k 64)) else acc)) := by
    intro k i acc hk hi
    have e1 : decide ((k : Int) ≥ 0) = true := by simp
    have e2 : decide ((k : Int) < (n : Int)) = decide (k < n) := by rw [Bool.eq_iff_iff]; simp
    simp only [seineref1_ReadType_l3T, e1, cnd_t, e2]
    unfold peel
    cases hd : decide (k < n)
    · simp only [cnd_f, cond_false]
      exact two k i acc hk hi
    · simp only [cnd_t, cond_true]
      by_cases hlt : i < s.length
      · obtain ⟨d1, d2⟩ := drop_head s i hlt
        have e3 : decide ((i : Int) ≥ (List.length s : Int)) = false := by simp; omega
        have e4 : nthI s (i : Int) = some s[i] := by rw [nthI_nat]; exact List.getElem?_eq_getElem hlt
        have e5 : ((s[i].toNat : Int) != 93) = !((s.drop i).head? == some 93) := by
          rw [d1]
          unfold bne
          rw [show (93 : Int) = ((93 : Nat) : Int) from rfl, u8_int _ 93 (by decide)]
          congr 1
        have e6 : IntKind.wrap .i64 ((i : Int) + 1) = ((i + 1 : Nat) : Int) := wadd (by omega)
        simp only [e3, cnd_f, e4, bnd_s, e5, e6]
        cases hq : (s.drop i).head? == some 93
        · rfl
        · simp only [Bool.not_true, cnd_f, cond_true, d2]
          exact two k (i + 1) acc hk (by omega)
      · have : i = s.length := by omega
        subst this
        have e3 : decide ((s.length : Int) ≥ (List.length s : Int)) = true := by simp
        simp [cnd]
  intro k
  induction k with
  | zero =>
    intro i acc hk hi
    have st := step 0 i acc hk hi
    simp only [parseB]
    cases hp : peel n 0 (s.drop i) with
    | none => rw [hp] at st; rw [tloop_exit st]; rfl
    | some q =>
      rw [hp] at st
      rw [tloop_next st]
      have e1 : decide (((0 : Nat) : Int) - 1 ≥ 0) = false := by simp
      rw [tloop_exit (by simp only [seineref1_ReadType_l3T, e1, cnd_f]; rfl)]
      rfl
  | succ k ih =>
    intro i acc hk hi
    have st := step (k + 1) i acc hk hi
    simp only [parseB]
    cases hp : peel n (k + 1) (s.drop i) with
    | none => rw [hp] at st; rw [tloop_exit st]; rfl
    | some q =>
      rw [hp] at st
      rw [tloop_next st]
      have e1 : ((k + 1 : Nat) : Int) - 1 = (k : Int) := by omega
      have ql : q.length ≤ s.length := by
        have h1 := congrArg List.length (peel_split hp)
        simp only [List.length_append, List.length_drop] at h1; omega
      have bl : (bangR q).length ≤ q.length := by
        have h1 := congrArg List.length (bang_split q)
        simp only [List.length_append] at h1; omega
      have hd : s.drop (s.length - (bangR q).length) = bangR q := by
        obtain ⟨a, ha⟩ : ∃ a, s = a ++ bangR q := by
          refine ⟨s.take i ++ ((bif decide (k + 1 < n) then [93] else []) ++ (bif bang q then [33] else [])), ?_⟩
          conv => lhs; rw [← List.take_append_drop i s, peel_split hp, bang_split q]
          simp
        conv => lhs; rw [ha]
        rw [List.length_append]; simp
      rw [e1, ih _ _ (by omega) (by omega), hd]
      simp only [bnd_s]
      cases hx : parseB n k (bangR q) with
      | none => rfl
      | some x =>
        obtain ⟨x1, x2⟩ := x
        have hl := (parseB_sound n k _ _ _ hx).2
        simp only [bnd_s, afterP, orL, hl]
theorem readType_general (s : Str) (h : s.length ≤ 1073741824) :
    (∃ t, rightT t = true ∧ printT t = s ∧ seineref1_ReadType s = some (t, true)) ∨ seineref1_ReadType s = some (⟨[], 0, 0⟩, false) := by
  have sm : Sm s := by unfold Sm; omega
  obtain ⟨n, hn⟩ : ∃ n, n = (s.takeWhile isOpen).length := ⟨_, rfl⟩
  obtain ⟨e, he⟩ : ∃ e, e = ((s.drop n).takeWhile inName).length := ⟨_, rfl⟩
  have hn1 : n ≤ s.length := by rw [hn]; exact takeWhile_len _ _
  have he1 : n + e ≤ s.length := by have := takeWhile_len inName (s.drop n); simp at this; omega
  have l1 := open_scan' s sm
  have l2 := name_scan s sm n hn1
  rw [← hn] at l1
  rw [← he] at l2
  have t1 : tslc s (n : Int) ((n + e : Nat) : Int) = some ((s.take (n + e)).drop n) := by rw [tslc_ok (by omega)]; simp only [Int.toNat_natCast]
  by_cases h4 : n ≤ 4
  · have e4 : decide ((n : Int) > 4) = false := by simp; omega
    obtain ⟨nm, hnm⟩ : ∃ nm, nm = (s.take (n + e)).drop n := ⟨_, rfl⟩
    have lnm : nm.length < 4611686018427387904 := by rw [hnm]; simp; omega
    have l3 := parse_loop s h n n (n + e) 0 h4 he1
    have body : seineref1_ReadType_B s = (cnd (!(isName nm)) (some ((GType.mk [] 0 0), false)) (elim (afterP s 0 (parseB n n (s.drop (n + e)))) (fun p63 =>
     cnd (p63.1 != (List.length s : Int))
      (some ((GType.mk [] 0 0), false))
      (some ((GType.mk nm n p63.2), true)))
    (fun p63 =>
    some ((GType.mk [] 0 0), false)))) := by
      simp only [seineref1_ReadType_B, l1, bnd_s, l2, t1, e4, cnd_f, ← hnm, seineref1_Name_ok nm lnm, l3]
    cases hnn : isName nm
    · right; apply seineref1_ReadType_run (r := (_, _)); rw [body, hnn]; rfl
    cases hp : parseB n n (s.drop (n + e)) with
    | none => right; apply seineref1_ReadType_run (r := (_, _)); rw [body, hnn, hp]; rfl
    | some x =>
      obtain ⟨bs, q⟩ := x
      obtain ⟨p1, p2⟩ := parseB_sound n n _ _ _ hp
      cases q with
      | cons c q =>
        right; apply seineref1_ReadType_run (r := (_, _)); rw [body, hnn, hp]
        have hl : q.length + 1 ≤ s.length := by
          have := congrArg List.length p1
          simp only [List.length_drop, List.length_append, List.length_cons] at this; omega
        simp only [afterP, elim_inl]
        have : ((((s.length - (c :: q).length : Nat) : Int)) != (s.length : Int)) = true := by
          simp only [bne_iff_ne, ne_eq, List.length_cons]; omega
        rw [this]; rfl
      | nil =>
        left
        obtain ⟨m1, m2, m3⟩ := or_len n (by omega) bs p2
        have hr : rightT ⟨nm, n, orL 0 bs⟩ = true := by
          rw [rightT_iff]
          refine ⟨hnn, by show (0 : Int) ≤ (n : Int); omega, by show (n : Int) ≤ 4; omega, m1, ?_⟩
          show orL 0 bs < 2 ^ ((n : Int).toNat + 1)
          rw [Int.toNat_natCast]; exact m2
        refine ⟨⟨nm, n, orL 0 bs⟩, hr, ?_, seineref1_ReadType_run (r := (_, _)) ?_⟩
        · show List.replicate (n : Int).toNat 91 ++ (nm ++ strF (n : Int).toNat (bitA (orL 0 bs)) (n : Int).toNat) = s
          rw [Int.toNat_natCast, strF_bits, m3]
          have c3 := cut3 (s := s) isOpen inName
          rw [← hn, ← he] at c3
          rw [List.append_nil] at p1
          rw [p1] at c3
          have hop : s.takeWhile isOpen = List.replicate n 91 := by
            rw [hn]
            refine List.eq_replicate_iff.2 ⟨rfl, ?_⟩
            intro b hb
            have : ∀ l : Str, ∀ b ∈ l.takeWhile isOpen, isOpen b = true := by
              intro l
              induction l with
              | nil => simp
              | cons x l ih =>
                intro b hb
                rw [List.takeWhile_cons] at hb
                cases hx : isOpen x
                · simp [hx] at hb
                · simp only [hx, if_true, List.mem_cons] at hb
                  rcases hb with rfl | hb
                  · exact hx
                  · exact ih b hb
            simpa [isOpen] using this s b hb
          have hnm2 : nm = (s.drop n).takeWhile inName := by
            rw [hnm, List.drop_take]
            have : ∀ (p : UInt8 → Bool) (l : Str), l.take (l.takeWhile p).length = l.takeWhile p := by
              intro p l
              induction l with
              | nil => rfl
              | cons x l ih => rw [List.takeWhile_cons]; cases p x <;> simp [ih]
            rw [show n + e - n = e by omega, he]; exact this _ _
          rw [hnm2, ← hop]; exact c3.symm
        · rw [body, hnn, hp]
          simp only [Bool.not_true, cnd_f, afterP, elim_inl, List.length_nil, Nat.sub_zero, bne_self_eq_false]
  · right
    have e4 : decide ((n : Int) > 4) = true := by simp; omega
    apply seineref1_ReadType_run (r := (_, _))
    simp only [seineref1_ReadType_B, l1, bnd_s, l2, t1, e4, cnd_t]
theorem seineref1_ReadType_print (t : GType) (h : rightT t = true) (hn : t.name.length ≤ 1073741800) : seineref1_ReadType (printT t) = some (t, true) := by
  have hlen := printT_len t h
  obtain ⟨p1, p2, p3, p4⟩ := printed_parts h
  obtain ⟨h1, h2, h3, h4, h5⟩ := (rightT_iff t).1 h
  have sm : Sm (printT t) := by unfold Sm; omega
  have hle : t.lists.toNat ≤ (printT t).length := by unfold printT; simp
  have hle2 : t.lists.toNat + t.name.length ≤ (printT t).length := by unfold printT; simp <;> omega
  have l1 := open_scan' (printT t) sm
  rw [p1, List.length_replicate] at l1
  have l2 := name_scan (printT t) sm t.lists.toNat hle
  rw [p2, p4] at l2
  have t1 : tslc (printT t) (t.lists.toNat : Int) ((t.lists.toNat + t.name.length : Nat) : Int) = some t.name := by
    rw [tslc_ok (by omega)]
    simp only [Int.toNat_natCast]
    rw [List.drop_take, p2]; simp
  have e4 : decide ((t.lists.toNat : Int) > 4) = false := by simp; omega
  have l3 := parse_loop (printT t) (by omega) t.lists.toNat t.lists.toNat (t.lists.toNat + t.name.length) 0 (by omega) hle2
  rw [← List.drop_drop, p2] at l3
  rw [show (t.name ++ strF t.lists.toNat (bitA t.musts) t.lists.toNat).drop t.name.length = strF t.lists.toNat (bitA t.musts) t.lists.toNat by simp] at l3
  rw [strF_bits, parseB_str _ _ _ (bitsL_length _ _) (Nat.le_refl _)] at l3
  simp only [afterP, right_eq h, List.length_nil, Nat.sub_zero] at l3
  have et : GType.mk t.name (t.lists.toNat : Int) t.musts = t := by rw [Int.toNat_of_nonneg h2]
  apply seineref1_ReadType_run (r := (_, _))
  simp only [seineref1_ReadType_B, l1, bnd_s, l2, t1, e4, cnd_f, seineref1_Name_ok t.name (by omega), h1, Bool.not_true, l3, elim_inl, bne_self_eq_false, et]
end Go.Proofs.Ytdnghbdhbahmeaa

/-
  The five statements of layer 4, of the typed functions.
-/
set_option linter.unusedVariables false
set_option linter.unusedSimpArgs false
open Go Go.Ev
namespace Go.Proofs.Ytdnghbdhbahmeaa

theorem seinelaw4_awake_ok : seinelaw4_awake = some true := seinelaw4_awake_run 100 (by kernel_rfl)
theorem long_ok {s : Str} : decide ((s.length : Int) > 2000) = true ∨ (decide ((s.length : Int) > 2000) = false ∧ s.length ≤ 2000) := by
  by_cases h : (s.length : Int) > 2000
  · left; simpa using h
  · right; exact ⟨by simpa using h, by omega⟩
def InT (t : GType) : Prop := (-9223372036854775808 ≤ t.lists ∧ t.lists ≤ 9223372036854775807) ∧ (-9223372036854775808 ≤ t.musts ∧ t.musts ≤ 9223372036854775807)
theorem InT.ok {t : GType} (h : InT t) (hn : t.name.length ≤ 2000) : TOk t := ⟨h.1, h.2, by omega⟩
theorem WrapSubs_ok (a b : GType) (ha : InT a) (hb : InT b) : seinelaw4_WrapSubs a b = some true := by
  apply seinelaw4_WrapSubs_run
  simp only [seinelaw4_WrapSubs_B, seinelaw4_awake_ok, bnd_s]
  rcases long_ok (s := a.name) with h | ⟨h, la⟩
  · rw [h]; rfl
  rcases long_ok (s := b.name) with h' | ⟨h', lb⟩
  · rw [h, h']; rfl
  simp only [h, h', cnd_f, wrap_Sub_ok a b (ha.ok la) (hb.ok lb), seineref1_SubType_ok a b (ha.ok la) (hb.ok lb), bnd_s, beq_self_eq_true, cnd_t]
theorem small_sub : ∀ (a b c : Fin 32), (bits .andNot .i64 (a.val : Int) (a.val : Int) == 0) = true ∧ ((bits .andNot .i64 (b.val : Int) (a.val : Int) == 0) = true → (bits .andNot .i64 (a.val : Int) (b.val : Int) == 0) = true → a = b) ∧
    ((bits .andNot .i64 (b.val : Int) (a.val : Int) == 0) = true → (bits .andNot .i64 (c.val : Int) (b.val : Int) == 0) = true → (bits .andNot .i64 (c.val : Int) (a.val : Int) == 0) = true) := by decide +kernel
theorem musts_fin {t : GType} (h : rightT t = true) : ∃ m : Fin 32, t.musts = (m.val : Int) := by
  obtain ⟨h1, h2, h3, h4, h5⟩ := (rightT_iff t).1 h
  obtain ⟨m, hm⟩ := Int.eq_ofNat_of_zero_le h4
  have h5' : m < 2 ^ (t.lists.toNat + 1) := by rw [hm] at h5; exact_mod_cast h5
  exact ⟨⟨m, Nat.lt_of_lt_of_le h5' (by
    have : 2 ^ (t.lists.toNat + 1) ≤ 2 ^ 5 := Nat.pow_le_pow_right (by decide) (by omega)
    exact this)⟩, hm⟩
theorem subT_iff (a b : GType) : subT a b = true ↔ rightT a = true ∧ rightT b = true ∧ a.name = b.name ∧ a.lists = b.lists ∧ (bits .andNot .i64 b.musts a.musts == 0) = true := by
  simp only [subT, Bool.and_eq_true, beq_iff_eq]
theorem sub_self (a : GType) : subT a a = rightT a := by
  rw [Bool.eq_iff_iff, subT_iff]
  constructor
  · exact fun h => h.1
  · intro h
    obtain ⟨m, hm⟩ := musts_fin h
    exact ⟨h, h, rfl, rfl, by rw [hm]; exact (small_sub m m m).1⟩
theorem sub_anti {a b : GType} (h1 : subT a b = true) (h2 : subT b a = true) : a = b := by
  obtain ⟨a1, b1, e1, e2, e3⟩ := (subT_iff a b).1 h1
  obtain ⟨_, _, _, _, e4⟩ := (subT_iff b a).1 h2
  obtain ⟨m, hm⟩ := musts_fin a1
  obtain ⟨n, hn⟩ := musts_fin b1
  rw [hm, hn] at e3 e4
  have := (small_sub m n n).2.1 e3 e4
  cases a; cases b
  simp only at e1 e2 hm hn
  subst e1 e2 hm hn this
  rfl
theorem sub_trans {a b c : GType} (h1 : subT a b = true) (h2 : subT b c = true) : subT a c = true := by
  obtain ⟨a1, b1, e1, e2, e3⟩ := (subT_iff a b).1 h1
  obtain ⟨_, c1, f1, f2, f3⟩ := (subT_iff b c).1 h2
  obtain ⟨m, hm⟩ := musts_fin a1
  obtain ⟨n, hn⟩ := musts_fin b1
  obtain ⟨o, ho⟩ := musts_fin c1
  rw [hm, hn] at e3
  rw [hn, ho] at f3
  exact (subT_iff a c).2 ⟨a1, c1, e1.trans f1, e2.trans f2, by rw [hm, ho]; exact (small_sub m n o).2.2 e3 f3⟩
theorem WrapOrder_ok (a b c : GType) (ha : InT a) (hb : InT b) (hc : InT c) : seinelaw4_WrapOrder a b c = some true := by
  apply seinelaw4_WrapOrder_run
  simp only [seinelaw4_WrapOrder_B, seinelaw4_awake_ok, bnd_s]
  rcases long_ok (s := a.name) with h | ⟨h, la⟩
  · rw [h]; rfl
  rcases long_ok (s := b.name) with h' | ⟨h', lb⟩
  · rw [h, h']; rfl
  rcases long_ok (s := c.name) with h'' | ⟨h'', lc⟩
  · rw [h, h', h'']; rfl
  have oa := ha.ok la
  have ob := hb.ok lb
  have oc := hc.ok lc
  simp only [h, h', h'', cnd_f, wrap_Sub_ok a a oa oa, wrap_Sub_ok a b oa ob, wrap_Sub_ok b a ob oa, wrap_Sub_ok b c ob oc, wrap_Sub_ok a c oa oc, wrap_Right_ok a oa, bnd_s, sub_self, beq_self_eq_true, Bool.not_true]
  have tr : subT a b = true → subT b c = true → subT a c = true := sub_trans
  cases hab : subT a b
  · rfl
  · cases hba : subT b a
    · cases hbc : subT b c
      · rfl
      · rw [tr hab hbc]; rfl
    · have := sub_anti hab hba
      subst this
      cases hbc : subT a c
      · simp [cnd]
      · simp [cnd]
theorem item_list_bits : ∀ (l : Fin 5) (m : Fin 32), m.val < 2 ^ (l.val + 1) →
    (l.val < 4 → IntKind.wrap .i64 ((l.val : Int) + 1) = (l.val : Int) + 1 ∧ 0 ≤ IntKind.wrap .i64 ((m.val : Int) * 2 ^ min (Int.toNat 1) 64) ∧ IntKind.wrap .i64 ((m.val : Int) * 2 ^ min (Int.toNat 1) 64) < 2 ^ (l.val + 1 + 1) ∧
      Int.fdiv (IntKind.wrap .i64 ((m.val : Int) * 2 ^ min (Int.toNat 1) 64)) (2 ^ min (Int.toNat 1) 64) = (m.val : Int) ∧ bit0 (IntKind.wrap .i64 ((m.val : Int) * 2 ^ min (Int.toNat 1) 64)) = false) ∧
    (0 < l.val → IntKind.wrap .i64 ((l.val : Int) - 1) = (l.val : Int) - 1 ∧ 0 ≤ Int.fdiv (m.val : Int) (2 ^ min (Int.toNat 1) 64) ∧ Int.fdiv (m.val : Int) (2 ^ min (Int.toNat 1) 64) < 2 ^ (l.val - 1 + 1) ∧
      IntKind.wrap .i64 (Int.fdiv (m.val : Int) (2 ^ min (Int.toNat 1) 64) * 2 ^ min (Int.toNat 1) 64) = bits .andNot .i64 (m.val : Int) 1) := by decide +kernel
def listT (t : GType) : GType := ⟨t.name, IntKind.wrap .i64 (t.lists + 1), IntKind.wrap .i64 (t.musts * 2 ^ min (Int.toNat 1) 64)⟩
def itemT (t : GType) : GType := ⟨t.name, IntKind.wrap .i64 (t.lists - 1), Int.fdiv t.musts (2 ^ min (Int.toNat 1) 64)⟩
theorem wrap_List_ok (t : GType) (h : TOk t) : wrap_List t = some (bif rightT t then (bif t.lists == 4 then (⟨[], 0, 0⟩, false) else (listT t, true)) else (⟨[], 0, 0⟩, false)) := by
  apply wrap_List_run
  simp only [wrap_List_B, wrap_Right_ok t h, bnd_s]
  cases rightT t <;> cases t.lists == 4 <;> rfl
theorem seineref1_List_ok (t : GType) (h : TOk t) : seineref1_List t = some (bif rightT t then (bif t.lists == 4 then (⟨[], 0, 0⟩, false) else (listT t, true)) else (⟨[], 0, 0⟩, false)) := by
  apply seineref1_List_run
  simp only [seineref1_List_B, seineref1_RightType_ok t h, bnd_s]
  cases rightT t <;> cases t.lists == 4 <;> rfl
theorem wrap_Item_ok (t : GType) (h : TOk t) : wrap_Item t = some (bif rightT t then (bif t.lists == 0 then (⟨[], 0, 0⟩, false) else (itemT t, true)) else (⟨[], 0, 0⟩, false)) := by
  apply wrap_Item_run
  simp only [wrap_Item_B, wrap_Right_ok t h, bnd_s]
  cases rightT t <;> cases t.lists == 0 <;> rfl
theorem seineref1_Item_ok (t : GType) (h : TOk t) : seineref1_Item t = some (bif rightT t then (bif t.lists == 0 then (⟨[], 0, 0⟩, false) else (itemT t, true)) else (⟨[], 0, 0⟩, false)) := by
  apply seineref1_Item_run
  simp only [seineref1_Item_B, seineref1_RightType_ok t h, bnd_s]
  cases rightT t <;> cases t.lists == 0 <;> rfl
theorem seineref1_Must_ok' (t : GType) (h : TOk t) : seineref1_Must t = some (mustT t) := by
  apply seineref1_Must_run
  simp only [seineref1_Must_B, seineref1_RightType_ok t h, bnd_s, mustT]
  cases rightT t <;> rfl
/-- Lists and items of a right type. -/
theorem list_right {t : GType} (h : rightT t = true) (hl : t.lists < 4) : (listT t).lists = t.lists + 1 ∧ rightT (listT t) = true ∧ itemT (listT t) = t ∧ bit0 (listT t).musts = false := by
  obtain ⟨h1, h2, h3, h4, h5⟩ := (rightT_iff t).1 h
  obtain ⟨l, el⟩ := Int.eq_ofNat_of_zero_le h2
  obtain ⟨m, em⟩ := musts_fin h
  have h5' : m.val < 2 ^ (l + 1) := by rw [em, el] at h5; simp only [Int.toNat_natCast] at h5; exact_mod_cast h5
  obtain ⟨k1, k2, k3, k4, k5⟩ := (item_list_bits ⟨l, by omega⟩ m h5').1 (by simp only; omega)
  simp only at k1 k2 k3 k4 k5
  have q1 : (listT t).lists = t.lists + 1 := by simp only [listT, el]; exact k1
  have q3 : (listT t).musts = IntKind.wrap .i64 ((m.val : Int) * 2 ^ min (Int.toNat 1) 64) := by simp only [listT, em]
  refine ⟨q1, ?_, ?_, ?_⟩
  · rw [rightT_iff, q1, q3]
    refine ⟨h1, by omega, by omega, k2, ?_⟩
    rw [el, show ((l : Int) + 1).toNat = l + 1 by omega]; exact k3
  · simp only [itemT, q1, q3, k4]
    rw [wi (by omega), show t.lists + 1 - 1 = t.lists by omega, ← em]
    rfl
  · rw [q3]; exact k5
theorem item_right {t : GType} (h : rightT t = true) (hl : 0 < t.lists) : (itemT t).lists = t.lists - 1 ∧ rightT (itemT t) = true ∧ listT (itemT t) = bareT t := by
  obtain ⟨h1, h2, h3, h4, h5⟩ := (rightT_iff t).1 h
  obtain ⟨l, el⟩ := Int.eq_ofNat_of_zero_le h2
  obtain ⟨m, em⟩ := musts_fin h
  have h5' : m.val < 2 ^ (l + 1) := by rw [em, el] at h5; simp only [Int.toNat_natCast] at h5; exact_mod_cast h5
  obtain ⟨k1, k2, k3, k4⟩ := (item_list_bits ⟨l, by omega⟩ m h5').2 (by simp only; omega)
  simp only at k1 k2 k3 k4
  have q1 : (itemT t).lists = t.lists - 1 := by simp only [itemT, el]; exact k1
  have q3 : (itemT t).musts = Int.fdiv (m.val : Int) (2 ^ min (Int.toNat 1) 64) := by simp only [itemT, em]
  refine ⟨q1, ?_, ?_⟩
  · rw [rightT_iff, q1, q3]
    refine ⟨h1, by omega, by omega, k2, ?_⟩
    rw [el, show ((l : Int) - 1).toNat = l - 1 by omega]; exact k3
  · have e1 : listT (itemT t) = ⟨t.name, IntKind.wrap .i64 ((itemT t).lists + 1), IntKind.wrap .i64 ((itemT t).musts * 2 ^ min (Int.toNat 1) 64)⟩ := rfl
    rw [e1, q1, q3, k4, wi (by omega), show t.lists - 1 + 1 = t.lists by omega, ← em]
    unfold bareT
    rw [h]; rfl
theorem isT_list {t : GType} (h : rightT t = true) (hl : t.lists < 4) : isT (listT t) = false := by
  unfold isT; rw [(list_right h hl).2.2.2]; simp
theorem list_false {t : GType} (h : rightT t = true) : (t.lists == 4) = decide (¬ t.lists < 4) := by
  obtain ⟨h1, h2, h3, h4, h5⟩ := (rightT_iff t).1 h
  rw [Bool.eq_iff_iff]; simp; omega
theorem zero_right : rightT ⟨[], 0, 0⟩ = false := rfl
theorem zero_ok : TOk ⟨[], 0, 0⟩ := by refine ⟨⟨by decide, by decide⟩, ⟨by decide, by decide⟩, by decide⟩
theorem WrapItems_ok (t : GType) (ht : InT t) : seinelaw4_WrapItems t = some true := by
  apply seinelaw4_WrapItems_run
  simp only [seinelaw4_WrapItems_B, seinelaw4_awake_ok, bnd_s]
  rcases long_ok (s := t.name) with h | ⟨h, la⟩
  · rw [h]; rfl
  have ok := ht.ok la
  simp only [h, cnd_f, wrap_List_ok t ok, wrap_Right_ok t ok, wrap_Item_ok t ok, wrap_Bare_ok t ok, bnd_s]
  have z1 := wrap_Item_ok _ zero_ok
  rw [zero_right] at z1
  simp only [cond_false] at z1
  cases hr : rightT t
  · simp only [cond_false, cnd_f, z1, bnd_s]; rfl
  obtain ⟨h1, h2, h3, h4, h5⟩ := (rightT_iff t).1 hr
  have second : (bnd (some (bif t.lists == 0 then ((⟨[], 0, 0⟩ : GType), false) else (itemT t, true))) fun y12 =>
           (cnd (!(y12.2 == (decide (t.lists > 0))))
            (some false)
            (cnd (!y12.2)
             (cnd ((y12.1.name == []) && ((y12.1.lists == 0) && ((y12.1.musts == 0) && true)))
              (some true)
              (some false))
             (bnd (wrap_List y12.1) fun y18 =>
             cnd y18.2
              (cnd ((y18.1.name == (bareT t).name) && ((y18.1.lists == (bareT t).lists) && ((y18.1.musts == (bareT t).musts) && true)))
               (some true)
               (some false))
              (some false))))) = some true := by
    by_cases hz : t.lists = 0
    · have e1 : (t.lists == 0) = true := by simpa using hz
      have e2 : decide (t.lists > 0) = false := by simp; omega
      simp only [e1, cond_true, bnd_s, e2]; rfl
    · have e1 : (t.lists == 0) = false := by simpa using hz
      have e2 : decide (t.lists > 0) = true := by simp; omega
      obtain ⟨i1, i2, i3⟩ := item_right hr (by omega)
      have io : TOk (itemT t) := TOk.of_right i2 (by show t.name.length ≤ _; omega)
      have e3 : ((itemT t).lists == 4) = false := by rw [i1]; simp; omega
      have l1 := wrap_List_ok _ io
      simp only [i2, cond_true, e3, cond_false, i3] at l1
      simp only [e1, cond_false, bnd_s, e2, l1, beq_self_eq_true, Bool.not_true, cnd_f, cnd_t, Bool.and_self]
  by_cases hl : t.lists < 4
  · have e4 : (t.lists == 4) = false := by simp; omega
    have e5 : decide (t.lists < 4) = true := by simpa using hl
    obtain ⟨l1, l2, l3, l4⟩ := list_right hr hl
    have lo : TOk (listT t) := TOk.of_right l2 (by show t.name.length ≤ _; omega)
    have e6 : ((listT t).lists == 0) = false := by rw [l1]; simp; omega
    have i1 := wrap_Item_ok _ lo
    simp only [l2, cond_true, e6, cond_false, l3] at i1
    have s1 := wrap_Is_ok _ lo
    rw [isT_list hr hl] at s1
    have e7 : ((listT t).lists != IntKind.wrap .i64 (t.lists + 1)) = false := by rw [l1, wi (by omega)]; simp
    simp only [cond_true, e4, cond_false, e5, cnd_t, beq_self_eq_true, Bool.not_true, cnd_f, i1, bnd_s, Bool.and_self, s1, e7]
    exact second
  · have e4 : (t.lists == 4) = true := by simp; omega
    have e5 : decide (t.lists < 4) = false := by simp; omega
    simp only [cond_true, e4, e5, cnd_t, beq_self_eq_true, Bool.not_true, cnd_f, z1, bnd_s]
    exact second
theorem ptext_len (t : GType) (hn : t.name.length ≤ 2000) : (ptext t).length ≤ 2014 := by
  unfold ptext
  cases h : rightT t
  · simp
  · have := printT_len t h; simp only [cond_true]; omega
theorem read_empty : wrap_Read [] = some (⟨[], 0, 0⟩, false) := by
  rcases read_general [] (by simp) with ⟨t, h1, h2, h3⟩ | h
  · exfalso
    obtain ⟨q1, _⟩ := (rightT_iff t).1 h1
    have := congrArg List.length h2
    simp only [printT, List.length_append, List.length_replicate, List.length_nil] at this
    have hn : t.name = [] := List.length_eq_zero_iff.1 (by omega)
    rw [hn] at q1; simp [isName] at q1
  · exact h
theorem gtype_beq (a b : GType) : ((a.name == b.name) && ((a.lists == b.lists) && ((a.musts == b.musts) && true))) = true ↔ a = b := by
  simp only [Bool.and_true, Bool.and_eq_true, beq_iff_eq]
  constructor
  · rintro ⟨h1, h2, h3⟩; cases a; cases b; simp only at h1 h2 h3; subst h1 h2 h3; rfl
  · rintro rfl; exact ⟨rfl, rfl, rfl⟩
theorem WrapBack_ok (t : GType) (s : Str) (ht : InT t) : seinelaw4_WrapBack t s = some true := by
  apply seinelaw4_WrapBack_run
  simp only [seinelaw4_WrapBack_B, seinelaw4_awake_ok, bnd_s]
  rcases long_ok (s := t.name) with h | ⟨h, la⟩
  · rw [h]; rfl
  rcases long_ok (s := s) with h' | ⟨h', lb⟩
  · rw [h, h']; rfl
  have ok := ht.ok la
  simp only [h, h', cnd_f, wrap_Print_ok t ok (by omega), wrap_Right_ok t ok, bnd_s, beq_self_eq_true, Bool.not_true]
  have second : (bnd (wrap_Read s) fun y12 =>
          cnd (!y12.2)
           (cnd ((y12.1.name == []) && ((y12.1.lists == 0) && ((y12.1.musts == 0) && true)))
            (some true)
            (some false))
           (bnd (wrap_Print y12.1) fun y16 =>
           cnd y16.2
            (cnd (y16.1 == s)
             (some true)
             (some false))
            (some false))) = some true := by
    rcases read_general s (by omega) with ⟨u, u1, u2, u3⟩ | u
    · have lu : u.name.length ≤ 2000 := by
        have := congrArg List.length u2
        simp only [printT, List.length_append, List.length_replicate] at this; omega
      have uo : TOk u := TOk.of_right u1 (by omega)
      have e : ptext u = s := by unfold ptext; rw [u1]; exact u2
      simp only [u3, bnd_s, Bool.not_true, cnd_f, wrap_Print_ok u uo (by omega), u1, cnd_t, e, beq_self_eq_true]
    · simp only [u, bnd_s]; rfl
  cases hr : rightT t
  · have e : ptext t = [] := by unfold ptext; rw [hr]; rfl
    simp only [e, read_empty, bnd_s, cnd_f, Bool.not_false, cnd_t, beq_self_eq_true, Bool.not_true]
    exact second
  · have e : ptext t = printT t := by unfold ptext; rw [hr]; rfl
    simp only [e, wrap_Read_print t hr (by omega), bnd_s, cnd_t, Bool.not_true, cnd_f, (gtype_beq t t).2 rfl]
    exact second
theorem WrapSays_ok (t : GType) (s : Str) (ht : InT t) : seinelaw4_WrapSays t s = some true := by
  apply seinelaw4_WrapSays_run
  simp only [seinelaw4_WrapSays_B, seinelaw4_awake_ok, bnd_s]
  rcases long_ok (s := t.name) with h | ⟨h, la⟩
  · rw [h]; rfl
  rcases long_ok (s := s) with h' | ⟨h', lb⟩
  · rw [h, h']; rfl
  have ok := ht.ok la
  have rd : ∃ x, wrap_Read s = some x ∧ seineref1_ReadType s = some x := by
    rcases read_general s (by omega) with ⟨u, u1, u2, u3⟩ | u
    · have lu : u.name.length ≤ 2000 := by
        have := congrArg List.length u2
        simp only [printT, List.length_append, List.length_replicate] at this; omega
      exact ⟨_, u3, by rw [← u2]; exact seineref1_ReadType_print u u1 (by omega)⟩
    · rcases readType_general s (by omega) with ⟨v, v1, v2, v3⟩ | v
      · have lv : v.name.length ≤ 2000 := by
          have := congrArg List.length v2
          simp only [printT, List.length_append, List.length_replicate] at this; omega
        have := wrap_Read_print v v1 (by omega)
        rw [v2, u] at this; simp at this
      · exact ⟨_, u, v⟩
  obtain ⟨x, x1, x2⟩ := rd
  simp only [h, h', cnd_f, wrap_Print_ok t ok (by omega), seineref1_PrintType_ok t ok (by omega), wrap_Right_ok t ok, seineref1_RightType_ok t ok, bnd_s, beq_self_eq_true, Bool.not_true, x1, x2, (gtype_beq _ _).2 rfl, wrap_Item_ok t ok, seineref1_Item_ok t ok, wrap_List_ok t ok, seineref1_List_ok t ok, cnd_t,
    wrap_Must_ok t ok, seineref1_Must_ok' t ok, wrap_Bare_ok t ok, seineref1_Bare_ok t ok, wrap_Is_ok t ok, seineref1_Is_ok t ok, Bool.and_self]
end Go.Proofs.Ytdnghbdhbahmeaa

/-
  What a reading of a type is, as numbers.
-/
set_option linter.unusedVariables false
open Go Go.Ev
namespace Go.Proofs.Ytdnghbdhbahmeaa
theorem int_good {t : GType} (g : gdType t) : InT t := by
  rw [gdType_eq] at g
  exact ⟨gdI_i64 g.2.1, gdI_i64 g.2.2.1⟩
end Go.Proofs.Ytdnghbdhbahmeaa

/-
  What is asked of the program as a whole.
-/
set_option linter.unusedVariables false
open Go Go.Ev
open Go.ChangeShapes Go.WideShapes Go.ChangeAt Go.RowKit
namespace Go.Proofs.Ytdnghbdhbahmeaa
theorem mixed : Try.prog.follows .mixedOrders = true := by kernel_rfl
theorem names : (Try.prog.funcs.toList.all fun fn => !fn.body.isSome || !(fn.name == "runtime.NumGoroutine")) = true := by kernel_rfl
theorem laid : laidOutB Try.prog = true := by kernel_rfl
theorem pok : POk Try.prog := by
  refine ⟨mixed, fun f fn hf hb => ?_⟩
  have hm : fn ∈ Try.prog.funcs.toList := by
    have := Array.mem_of_getElem? hf
    simpa using this
  have := List.all_eq_true.1 names fn hm
  rw [hb] at this
  simpa using this
theorem blOk {H : Type} : BlOk (H := H) Rows.uptoBulk Rows.uptoBulkAll := by
  refine ⟨fun l => ?_, fun s => ?_, ?_, fun es sp => ?_, fun ps => ?_, fun d r => ?_⟩
  · cases l <;> simp [Rows.uptoBulk]
  · simp [Rows.uptoBulk]
  · simp [Rows.uptoBulk]
  · simp only [Rows.uptoBulk]; omega
  · simp only [Rows.uptoBulk]; omega
  · simp [Rows.uptoBulkAll]
theorem own : ownKnob Try.prog.godebug = none := by kernel_rfl
end Go.Proofs.Ytdnghbdhbahmeaa

/-
  WrapOrder: sub is an order among types that may be: each is its own, two ways mean one type, and it goes on. Conditions: none beside the row's own (bulk at most 1048576).
-/
set_option linter.unusedVariables false
open Go Go.Ev
open Go.ChangeShapes Go.WideShapes Go.ChangeAt Go.RowKit
namespace Go.Proofs.Ytdnghbdhbahmeaa
namespace wrapOrder
def fs : Ty := (.fcons (.ext 0) (.fcons (.ext 0) (.fcons (.ext 0) .fnil)))
theorem lawF : ∀ x : fs.den RS, good RS fs x → bulkL RS fs x ≤ 1048576 → OL Try.prog MT XT 5 (encL RS fs x) [] = some (.bool true, []) := by
  rintro ⟨x0, x1, x2, _⟩ g b
  have b' : bkType x0 + (bkType x1 + (bkType x2 + (0))) ≤ 1048576 := b
  obtain ⟨g0, g1, g2, _⟩ := g
  have g0' : gdType x0 := g0
  have g1' : gdType x1 := g1
  have g2' : gdType x2 := g2
  have e : encL RS fs (x0, x1, x2, ()) = [encType x0, encType x1, encType x2] := rfl
  rw [e]
  change O 5 _ _ = _
  have h := seinelaw4_WrapOrder_spec (WrapOrder_ok x0 x1 x2 (int_good g0') (int_good g1') (int_good g2'))
  simpa only [tys, seinelaw4_WrapOrderE] using h
set_option maxRecDepth 100000 in
theorem contract (H : Type) (enc : TypeId × Value → H) (W : World) (base : Nat) (args : Array Value) (ds gs : List (DataW H)) (before : List MemPlace)
    (hval : ∀ (j : Nat) t v, Try.f5.params[j]? = some t → args[j]? = some v → Value.okWide Try.prog W .any base t v)
    (hW : DataW.Whole enc Try.prog Try.f5.params.toList Rows.wrapOrderSpec.vars false W args.toList ds gs before) (hk : Rows.uptoSmall H (ds ++ gs) = true) :
    Calls Try.prog 5 args W fun e W' => ∃ v, e = .returned v ∧ Rows.wrapOrderSpec.post enc Try.prog Try.f5 false true false false W args v W' := by
  have hg : gs = [] := by
    obtain ⟨p, q, hA, hV, _⟩ := hW
    exact (trodVars_none hV).1
  have hb : Rows.uptoBulkAll ds ≤ 1048576 := by
    have := of_decide_eq_true hk
    simpa [hg] using this
  have hlen : ds.length = 3 := by
    obtain ⟨p, q, hA0, hV, _⟩ := hW
    have hA : DataW.TrodAll enc Try.prog W 0 (fun _ => true) true Try.f5.params.toList args.toList ds p := hA0
    rw [Try.params5] at hA
    obtain ⟨v0, vs0, d0, ds0, p0, q0, h0, rfl, rfl, ht0, r0⟩ := trodAll_cons hA
    obtain ⟨v1, vs1, d1, ds1, p1, q1, h1, rfl, rfl, ht1, r1⟩ := trodAll_cons r0
    obtain ⟨v2, vs2, d2, ds2, p2, q2, h2, rfl, rfl, ht2, r2⟩ := trodAll_cons r1
    obtain ⟨rfl, rfl, rfl⟩ := trodAll_nil r2
    rfl
  refine contract_true pok xok laid blOk Try.func5 rfl (n := 9) (ρ := RS) (τ := TS) (fs := fs) (tb := 4) (by kernel_rfl) (by rw [show Try.f5.resultTypes = #[4] from rfl]) Try.underlying4 rfl (rok enc W blOk) ?_ hval hW hb lawF
  subst hg
  match ds, hlen with
  | [d0, d1, d2], _ => exact ⟨rfl, rfl, rfl⟩
set_option maxRecDepth 100000 in
theorem lifted (os : Os) (started : os.Started) (H : Type) (enc : TypeId × Value → H) (F : Stop.Interp) :
    ReturnsInHanded {} Try.checked os 5 .any ((Rows.OpenSpec.upto Rows.wrapOrderSpec).pre6 enc Try.prog Try.f5 Rows.wrapOrderUptoRow.domain false) (((Rows.OpenSpec.upto Rows.wrapOrderSpec).at F).post enc Try.prog Try.f5 false true false false) := by
  refine returnsInHanded_of_cond (C := Try.checked) (s := Rows.OpenSpec.upto Rows.wrapOrderSpec) (k := Rows.uptoSmall) rfl own started (by kernel_rfl) Try.func5
    (OpenSpec.witness (enc := enc) (C := Try.checked) (s := Rows.OpenSpec.upto Rows.wrapOrderSpec) (k := Rows.uptoSmall) rfl false ⟨#[], #[.agg #[.string ⟨#[]⟩, .int .i64 0, .int .i64 0], .agg #[.string ⟨#[]⟩, .int .i64 0, .int .i64 0], .agg #[.string ⟨#[]⟩, .int .i64 0, .int .i64 0]], []⟩ 8 (by kernel_rfl) (by kernel_rfl) (by kernel_rfl)
      (x := ([.agg [.lit (.string []), .lit (.int .i64 0), .lit (.int .i64 0)], .agg [.lit (.string []), .lit (.int .i64 0), .lit (.int .i64 0)], .agg [.lit (.string []), .lit (.int .i64 0), .lit (.int .i64 0)]], [], [])) (by kernel_rfl) rfl (by kernel_rfl)) ?_
  intro W base args ds gs before hval hW _ hk _
  exact contract H enc W base args ds gs before hval hW hk
theorem over : Rows.wrapOrderUptoRow.holds Try.pinned (Rows.OpenSpec.upto Rows.wrapOrderSpec) :=
  OpenClaim.holds_of_cond 5 Try.f5 rfl rfl rfl rfl rfl rfl rfl ⟨rfl, rfl, rfl, rfl, rfl⟩ rfl rfl rfl rfl rfl (by kernel_rfl) Try.func5 (by kernel_rfl)
    (of_decide_eq_true (by kernel_rfl)) (by unfold Func.isWrapper; first | (rw [if_pos (by decide +kernel)]; kernel_rfl) | (rw [if_neg (by decide +kernel)]; exact ⟨rfl, rfl⟩))
    (fun os started H enc _ F => lifted os started H enc F)
theorem proved : Rows.WrapOrderUptoSaid :=
  over
end wrapOrder
end Go.Proofs.Ytdnghbdhbahmeaa
