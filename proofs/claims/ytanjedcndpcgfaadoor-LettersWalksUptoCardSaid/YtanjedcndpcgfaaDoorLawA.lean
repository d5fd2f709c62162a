/-
  LettersWalks: a text is good just if one comes from code point to code point to its end; each takes one to four bytes, and is one, each by itself. Conditions: the row's own (bulk at most 1048576; utf8's two tables hold what their initialisers lay, which the card ties to the program's text).
-/
import Derived.Test.YtanjedcndpcgfaaDoorGb
import Derived.Test.YtanjedcndpcgfaaDoorEd
import Derived.KernelRfl
import Derived.Test.YtanjedcndpcgfaaDoorGa
import Derived.Deep.DeepHandedRow
import Derived.Lib.LaidTab
import Derived.Lib.LaidU8T
import Derived.Test.YtanjedcndpcgfaaDoorRows
import Derived.WalkKit
import Derived.ProofKit
import Derived.OpenShut
import Derived.JoinedCond
import Derived.Test.YtanjedcndpcgfaaDoorCards
import Derived.Test.YtanjedcndpcgfaaDoorTie
set_option linter.unusedVariables false
set_option linter.unusedSimpArgs false
/-
  Names: the program's and the reference's are alike.
-/
set_option linter.unusedVariables false
set_option linter.unusedSimpArgs false
open Go Go.Ev
namespace Go.Proofs.YtanjedcndpcgfaaDoor

def letter (c : Int) : Bool := (decide (97 ≤ c) && decide (c ≤ 122)) || ((decide (65 ≤ c) && decide (c ≤ 90)) || c == 95)
def digit (c : Int) : Bool := decide (48 ≤ c) && decide (c ≤ 57)
theorem letters_Letter_ok (c : Int) : letters_Letter c = some (letter c) := by
  apply letters_Letter_run
  simp only [letters_Letter_B, letter, cnd_ite, ge_iff_le]
  cases decide (97 ≤ c) <;> cases decide (c ≤ 122) <;> cases decide (65 ≤ c) <;> cases decide (c ≤ 90) <;> simp
theorem letters_Digit_ok (c : Int) : letters_Digit c = some (digit c) := by
  apply letters_Digit_run
  simp only [letters_Digit_B, digit, cnd_ite, ge_iff_le]
  cases decide (48 ≤ c) <;> simp
theorem seineref1_start_ok (c : Int) : seineref1_start c = some (letter c) := by
  apply seineref1_start_run
  simp only [seineref1_start_B, letter, cnd_ite, ge_iff_le]
  cases decide (97 ≤ c) <;> cases decide (c ≤ 122) <;> cases decide (65 ≤ c) <;> cases decide (c ≤ 90) <;> simp
theorem seineref1_digit_ok (c : Int) : seineref1_digit c = some (digit c) := by
  apply seineref1_digit_run
  simp only [seineref1_digit_B, digit, cnd_ite, ge_iff_le]
  cases decide (48 ≤ c) <;> simp

/-- All of these may stand behind a name's first sign. -/
def inName (c : UInt8) : Bool := letter c.toNat || digit c.toNat
def isName : Str → Bool
  | [] => false
  | c :: s => letter c.toNat && s.all inName
theorem letters_Name_ok (s : Str) (h : s.length < 4611686018427387904) : letters_Name s = some (isName s) := by
  apply letters_Name_run
  have key := tloop_list (b := letters_Name_l1T s) s (fun k (_ : Unit) => (k : Int)) (fun r _ => if r.all (fun c => inName c) then Sum.inl () else Sum.inr ()) (fun k _ => 1 ≤ k)
    (by
      intro a _
      simp [letters_Name_l1T])
    (by
      intro k x r a hk hx hd hI
      have e1 : (decide ((k : Int) < (List.length s : Int))) = true := by simp; omega
      have e2 : ((k : Int) == 0) = false := by simp; omega
      have e3 : IntKind.wrap .i64 ((k : Int) + 1) = ((k + 1 : Nat) : Int) := wadd (by omega)
      simp only [letters_Name_l1T, e1, cnd_t, nthI_nat, hx, bnd_s, letters_Letter_ok, letters_Digit_ok, e2, cnd_f, e3]
      cases h1 : letter x.toNat <;> cases h2 : digit x.toNat <;> simp [inName, h1, h2])
  unfold letters_Name_B
  cases s with
  | nil =>
    rw [tloop_exit (r := .inl ()) (by simp [letters_Name_l1T])]
    simp [isName]
  | cons c s =>
    have e1 : (decide ((0 : Int) < (List.length (c :: s) : Int))) = true := by simp
    cases h1 : letter c.toNat with
    | false =>
      rw [tloop_exit (r := .inr ()) (by
        have : nthI (c :: s) 0 = some c := rfl
        simp only [letters_Name_l1T, e1, cnd_t, this, bnd_s, letters_Letter_ok, h1]; rfl)]
      simp [isName, h1]
    | true =>
      rw [tloop_next (s' := ((1 : Nat) : Int)) (by
        have : nthI (c :: s) 0 = some c := rfl
        simp only [letters_Name_l1T, e1, cnd_t, this, bnd_s, letters_Letter_ok, h1]; rfl)]
      rw [key 1 () (by simp) (by omega)]
      simp only [List.drop_succ_cons, List.drop_zero, bnd_s, isName, h1, Bool.true_and]
      cases h2 : s.all inName <;> simp
theorem seineref1_Name_ok (s : Str) (h : s.length < 4611686018427387904) : seineref1_Name s = some (isName s) := by
  apply seineref1_Name_run
  have key := tloop_list (b := seineref1_Name_l1T s) s (fun k (_ : Unit) => (k : Int)) (fun r _ => if r.all (fun c => inName c) then Sum.inl () else Sum.inr ()) (fun k _ => 1 ≤ k)
    (by
      intro a _
      simp [seineref1_Name_l1T])
    (by
      intro k x r a hk hx hd hI
      have e1 : (decide ((k : Int) < (List.length s : Int))) = true := by simp; omega
      have e3 : IntKind.wrap .i64 ((k : Int) + 1) = ((k + 1 : Nat) : Int) := wadd (by omega)
      simp only [seineref1_Name_l1T, e1, cnd_t, nthI_nat, hx, bnd_s, seineref1_start_ok, seineref1_digit_ok, cnd_f, e3]
      cases h1 : letter x.toNat <;> cases h2 : digit x.toNat <;> simp [inName, h1, h2])
  unfold seineref1_Name_B
  cases s with
  | nil => rfl
  | cons c s =>
    have : nthI (c :: s) 0 = some c := rfl
    have e0 : ((c :: s) == ([] : Str)) = false := rfl
    simp only [e0, cnd_f, this, bnd_s, seineref1_start_ok]
    cases h1 : letter c.toNat with
    | false => simp [isName, h1]
    | true =>
      have := key 1 () (by simp) (by omega)
      rw [show ((1 : Nat) : Int) = 1 from rfl] at this
      simp only [Bool.not_true, cnd_f, this, List.drop_succ_cons, List.drop_zero, bnd_s, isName, h1, Bool.true_and]
      cases h2 : s.all inName <;> simp

end Go.Proofs.YtanjedcndpcgfaaDoor

/-
  Layer 1: code points, units, what a document may have: of the typed functions.
-/
set_option linter.unusedVariables false
set_option linter.unusedSimpArgs false
open Go Go.Ev
namespace Go.Proofs.YtanjedcndpcgfaaDoor

/-! the reference's decoder -/
theorem w32 {n : Int} (h : 0 ≤ n ∧ n < 2147483648) : IntKind.wrap .i32 n = n := by rw [IntKind.wrap_i32]; omega
theorem and63 : ∀ x : Fin 256, bits .and .i64 (x.val : Int) 63 = ((x.val % 64 : Nat) : Int) := by decide +kernel
theorem and31 : ∀ x : Fin 256, bits .and .i64 (x.val : Int) 31 = ((x.val % 32 : Nat) : Int) := by decide +kernel
theorem and15 : ∀ x : Fin 256, bits .and .i64 (x.val : Int) 15 = ((x.val % 16 : Nat) : Int) := by decide +kernel
theorem and7 : ∀ x : Fin 256, bits .and .i64 (x.val : Int) 7 = ((x.val % 8 : Nat) : Int) := by decide +kernel
theorem or_low {c x : Nat} (hc : c < 1073741824) (hx : x < 64) : bits .or .i64 ((c * 64 : Nat) : Int) (x : Int) = ((c * 64 + x : Nat) : Int) := by
  have h0 : bits .or .i64 ((c * 64 : Nat) : Int) (x : Int) = IntKind.wrap .i64 ((BitVec.ofInt 64 ((c * 64 : Nat) : Int) ||| BitVec.ofInt 64 (x : Int)).toNat : Int) := rfl
  have h1 : (BitVec.ofInt 64 ((c * 64 : Nat) : Int) ||| BitVec.ofInt 64 (x : Int)).toNat = c * 64 + x := by
    rw [BitVec.ofInt_natCast, BitVec.ofInt_natCast, BitVec.toNat_or, BitVec.toNat_ofNat, BitVec.toNat_ofNat, Nat.mod_eq_of_lt (by omega), Nat.mod_eq_of_lt (by omega)]
    have := Nat.two_pow_add_eq_or_of_lt (i := 6) (b := x) (by omega) c
    rw [show c * 64 = 2 ^ 6 * c by omega, ← this]
  rw [h0, h1]
  exact wn (by omega)
/-- One byte more. -/
theorem more6 {c : Nat} (hc : c < 1048576) (x : UInt8) : bits .or .i64 (IntKind.wrap .i64 ((c : Int) * 2 ^ min (Int.toNat 6) 64)) (bits .and .i64 (IntKind.wrap .i64 (x.toNat : Int)) 63) = ((c * 64 + x.toNat % 64 : Nat) : Int) := by
  have hx : x.toNat < 256 := UInt8.toNat_lt _
  rw [wn (show x.toNat ≤ _ by omega), and63 ⟨x.toNat, hx⟩]
  have e : ((c : Int) * 2 ^ min (Int.toNat 6) 64) = ((c * 64 : Nat) : Int) := by
    rw [show (2 : Int) ^ min (Int.toNat 6) 64 = 64 from rfl]; omega
  rw [e, wn (by omega)]
  exact or_low (by omega) (by omega)
theorem dN2 {n x0 x1 x2 x3 : Nat} (h0 : 128 ≤ x0) (h : x0 < 224) (h1 : x1 < 256) : Go.Lib.decodeN n x0 x1 x2 x3 = if 194 ≤ x0 ∧ 1 < n ∧ 128 ≤ x1 ∧ x1 ≤ 191 then (x0 % 32 * 64 + x1 % 64, 2) else (65533, 1) := by
  unfold Go.Lib.decodeN
  rw [if_neg (by omega)]
  by_cases c : x0 / 32 = 6 ∧ (1 < n ∧ x1 / 64 = 2)
  · rw [if_pos c]
    split
    · rw [if_pos (by omega)]
    · rw [if_neg (by omega)]
  · rw [if_neg c, if_neg (by omega), if_neg (by omega), if_neg (by omega)]
theorem dN3 {n x0 x1 x2 x3 : Nat} (h0 : 224 ≤ x0) (h : x0 < 240) (h1 : x1 < 256) (h2 : x2 < 256) : Go.Lib.decodeN n x0 x1 x2 x3 = if (1 < n ∧ 128 ≤ x1 ∧ x1 ≤ 191) ∧ (2 < n ∧ 128 ≤ x2 ∧ x2 ≤ 191) ∧ 2048 ≤ x0 % 16 * 4096 + x1 % 64 * 64 + x2 % 64 ∧ (x0 % 16 * 4096 + x1 % 64 * 64 + x2 % 64 < 55296 ∨ 57344 ≤ x0 % 16 * 4096 + x1 % 64 * 64 + x2 % 64) then (x0 % 16 * 4096 + x1 % 64 * 64 + x2 % 64, 3) else (65533, 1) := by
  unfold Go.Lib.decodeN
  rw [if_neg (by omega), if_neg (by omega)]
  by_cases c : x0 / 16 = 14 ∧ (1 < n ∧ x1 / 64 = 2) ∧ (2 < n ∧ x2 / 64 = 2)
  · rw [if_pos c]
    split
    · rw [if_pos (by omega)]
    · rw [if_neg (by omega)]
  · rw [if_neg c, if_neg (by omega), if_neg (by omega)]
theorem dN4 {n x0 x1 x2 x3 : Nat} (h0 : 240 ≤ x0) (h : x0 < 256) (h1 : x1 < 256) (h2 : x2 < 256) (h3 : x3 < 256) : Go.Lib.decodeN n x0 x1 x2 x3 = if x0 < 245 ∧ (1 < n ∧ 128 ≤ x1 ∧ x1 ≤ 191) ∧ (2 < n ∧ 128 ≤ x2 ∧ x2 ≤ 191) ∧ (3 < n ∧ 128 ≤ x3 ∧ x3 ≤ 191) ∧ 65536 ≤ x0 % 8 * 262144 + x1 % 64 * 4096 + x2 % 64 * 64 + x3 % 64 ∧ x0 % 8 * 262144 + x1 % 64 * 4096 + x2 % 64 * 64 + x3 % 64 ≤ 1114111 then (x0 % 8 * 262144 + x1 % 64 * 4096 + x2 % 64 * 64 + x3 % 64, 4) else (65533, 1) := by
  unfold Go.Lib.decodeN
  rw [if_neg (by omega), if_neg (by omega), if_neg (by omega)]
  by_cases c : x0 / 8 = 30 ∧ (1 < n ∧ x1 / 64 = 2) ∧ (2 < n ∧ x2 / 64 = 2) ∧ (3 < n ∧ x3 / 64 = 2)
  · rw [if_pos c]
    split
    · rw [if_pos (by omega)]
    · rw [if_neg (by omega)]
  · rw [if_neg c, if_neg (by omega)]
def codeI (s : Str) : Int × Int := match decR s with
  | some (c, k) => ((c : Int), (k : Int))
  | none => (0, 0)
theorem codeI_of {s : Str} (hne : s ≠ []) {d : Nat × Nat} (h : decS s = d) : codeI s = if d.1 = 65533 ∧ d.2 = 1 then (0, 0) else ((d.1 : Int), (d.2 : Int)) := by
  unfold codeI decR
  rw [if_neg hne, h]
  split
  · rename_i c k he
    split at he
    · simp at he
    · rename_i hb
      rw [if_neg hb]; simp only [Option.some.injEq] at he; rw [he]
  · rename_i he
    split at he
    · rename_i hb; rw [if_pos hb]
    · simp at he
theorem decS_pos {s : Str} (hne : s ≠ []) : 1 ≤ (decS s).2 := by
  rw [decR_decodeN hne]
  unfold Go.Lib.decodeN
  repeat' split
  all_goals simp
theorem decS_small {s : Str} (hne : s ≠ []) : (decS s).1 ≤ 1114111 ∧ (decS s).2 ≤ 4 := by
  rw [decR_decodeN hne]
  have b0 : (s.getD 0 0).toNat < 256 := UInt8.toNat_lt _
  unfold Go.Lib.decodeN
  repeat' split
  all_goals (constructor <;> simp only <;> omega)
theorem tslc_dropI {α : Type} (l : List α) (k : Nat) (h : k ≤ l.length) : tslc l (k : Int) (l.length : Int) = some (l.drop k) := by
  unfold tslc
  simp; omega
theorem drop_ne {s : Str} {i : Nat} (h : i < s.length) : s.drop i ≠ [] := by
  intro e; have := congrArg List.length e; simp at this; omega
theorem letters_Code_nat (s : Str) (i : Nat) (h : i < s.length) (hs : s.length ≤ 1073741824) : letters_Code s (i : Int) = some (codeI (s.drop i)) := by
  apply letters_Code_run
  have e1 : decide ((i : Int) < 0) = false := by simp
  have e2 : decide ((i : Int) ≥ (s.length : Int)) = false := by simp; omega
  have e3 : utf8_DecodeRuneInString (s.drop i) = some (((decS (s.drop i)).1 : Int), ((decS (s.drop i)).2 : Int)) := utf8_DecodeRuneInString_run rfl
  have hne := drop_ne h
  have p1 := decS_pos hne
  have p2 := decS_small hne
  simp only [letters_Code_B, e1, e2, cnd_f, tslc_dropI s i (by omega), bnd_s, e3, codeI_of hne rfl]
  obtain ⟨c, hc⟩ : ∃ c, (decS (s.drop i)).1 = c := ⟨_, rfl⟩
  obtain ⟨k, hk⟩ : ∃ k, (decS (s.drop i)).2 = k := ⟨_, rfl⟩
  rw [hk] at p1
  rw [hc, hk] at p2
  rw [hc, hk]
  rw [wn (by omega)]
  by_cases h1 : c = 65533
  · have d1 : ((c : Int) == 65533) = true := by simp; omega
    by_cases h2 : k = 1
    · have d2 : decide ((k : Int) < 2) = true := by simp; omega
      rw [if_pos ⟨h1, h2⟩, d1, d2]; rfl
    · have d2 : decide ((k : Int) < 2) = false := by simp; omega
      rw [if_neg (by rintro ⟨_, h⟩; exact h2 h), d1, d2]; rfl
  · have d1 : ((c : Int) == 65533) = false := by simp; omega
    rw [if_neg (by rintro ⟨h, _⟩; exact h1 h), d1]; rfl
theorem letters_Code_out (s : Str) (i : Int) (h : ¬ (0 ≤ i ∧ i < s.length)) : letters_Code s i = some (0, 0) := by
  apply letters_Code_run
  by_cases h1 : i < 0
  · have e1 : decide (i < 0) = true := by simpa using h1
    simp only [letters_Code_B, e1, cnd_t]
  · have e1 : decide (i < 0) = false := by simpa using h1
    have e2 : decide (i ≥ (s.length : Int)) = true := by simp; omega
    simp only [letters_Code_B, e1, e2, cnd_t, cnd_f]
theorem seineref1_Code_out (s : Str) (i : Int) (h : ¬ (0 ≤ i ∧ i < s.length)) : seineref1_Code s i = some (0, 0) := by
  apply seineref1_Code_run
  by_cases h1 : i < 0
  · have e1 : decide (i < 0) = true := by simpa using h1
    simp only [seineref1_Code_B, e1, cnd_t]
  · have e1 : decide (i < 0) = false := by simpa using h1
    have e2 : decide (i ≥ (s.length : Int)) = true := by simp; omega
    simp only [seineref1_Code_B, e1, e2, cnd_t, cnd_f]
/-- A loop over the bytes behind the first one. -/
theorem tail_loop {b : (Int × Int) → Option ((Int × Int) ⊕ (Int ⊕ Unit))} (s : Str) (i n : Nat) (hs : s.length ≤ 1073741824) (hn : i + n ≤ s.length)
    (hb : ∀ (c : Nat) (k : Nat), c < 1048576 → b ((c : Int), (k : Int)) = cnd (decide ((k : Int) < (n : Int)))
      (bnd (nthI s (IntKind.wrap .i64 ((i : Int) + (k : Int)))) fun y9 =>
        cnd (decide ((IntKind.wrap .i64 (y9.toNat : Int)) < 128)) (some (.inr (.inr ())))
          (cnd (decide ((IntKind.wrap .i64 (y9.toNat : Int)) > 191)) (some (.inr (.inr ())))
            (some (.inl ((bits .or .i64 (IntKind.wrap .i64 ((c : Int) * 2 ^ min (Int.toNat 6) 64)) (bits .and .i64 (IntKind.wrap .i64 (y9.toNat : Int)) 63)), (IntKind.wrap .i64 ((k : Int) + 1)))))))
      (some (.inr (.inl (c : Int))))) (c k : Nat) (hc : c < 1048576) :
    (k < n → ∀ x, s[i + k]? = some x → (x.toNat < 128 ∨ 191 < x.toNat → tloop b ((c : Int), (k : Int)) = some (.inr ())) ∧ (128 ≤ x.toNat ∧ x.toNat ≤ 191 → tloop b ((c : Int), (k : Int)) = tloop b (((c * 64 + x.toNat % 64 : Nat) : Int), ((k + 1 : Nat) : Int)))) ∧
    (k = n → tloop b ((c : Int), (k : Int)) = some (.inl (c : Int))) := by
  constructor
  · intro hk x hx
    have hxl : x.toNat < 256 := UInt8.toNat_lt _
    have h0 := hb c k hc
    have d0 : decide ((k : Int) < (n : Int)) = true := by simp; omega
    have e1 : IntKind.wrap .i64 ((i : Int) + (k : Int)) = ((i + k : Nat) : Int) := by rw [wi (by omega)]; omega
    have e2 : nthI s ((i + k : Nat) : Int) = some x := by rw [nthI_nat]; exact hx
    have e3 : IntKind.wrap .i64 (x.toNat : Int) = (x.toNat : Int) := wn (by omega)
    have e4 := more6 hc x
    rw [e3] at e4
    rw [d0, e1, e2] at h0
    simp only [cnd_t, bnd_s, e3, e4, wadd (show k < 9223372036854775807 by omega)] at h0
    constructor
    · intro hbad
      by_cases hl : x.toNat < 128
      · have d1 : decide ((x.toNat : Int) < 128) = true := by simp; omega
        rw [d1] at h0
        exact tloop_exit h0
      · have d1 : decide ((x.toNat : Int) < 128) = false := by simp; omega
        have d2 : decide ((x.toNat : Int) > 191) = true := by simp; omega
        rw [d1, d2] at h0
        exact tloop_exit h0
    · intro hg
      have d1 : decide ((x.toNat : Int) < 128) = false := by simp; omega
      have d2 : decide ((x.toNat : Int) > 191) = false := by simp; omega
      rw [d1, d2] at h0
      exact tloop_next h0
  · rintro rfl
    have h0 := hb c k hc
    rw [end_lt] at h0
    exact tloop_exit h0
set_option maxRecDepth 100000 in
theorem seineref1_Code_nat (s : Str) (i : Nat) (h : i < s.length) (hs : s.length ≤ 1073741824) : seineref1_Code s (i : Int) = some (codeI (s.drop i)) := by
  apply seineref1_Code_run
  have hne := drop_ne h
  have e1 : decide ((i : Int) < 0) = false := by simp
  have e2 : decide ((i : Int) ≥ (s.length : Int)) = false := by simp; omega
  obtain ⟨b0, hb0⟩ : ∃ b, s[i]? = some b := ⟨_, List.getElem?_eq_getElem h⟩
  have e3 : nthI s (i : Int) = some b0 := by rw [nthI_nat]; exact hb0
  have hx0 : b0.toNat < 256 := UInt8.toNat_lt _
  have e4 : IntKind.wrap .i64 (b0.toNat : Int) = (b0.toNat : Int) := wn (by omega)
  have e5 : IntKind.wrap .i64 ((s.length : Int) - (i : Int)) = ((s.length - i : Nat) : Int) := by rw [wi (by omega)]; omega
  have g : ∀ k b, s[i + k]? = some b → (s.drop i).getD k 0 = b := by
    intro k b hk
    rw [List.getD_eq_getElem?_getD, List.getElem?_drop, hk]; rfl
  have g0 : (s.drop i).getD 0 0 = b0 := g 0 b0 (by simpa using hb0)
  have hd := decR_decodeN hne
  rw [g0, List.length_drop] at hd
  have hx1 : ((s.drop i).getD 1 0).toNat < 256 := UInt8.toNat_lt _
  have hx2 : ((s.drop i).getD 2 0).toNat < 256 := UInt8.toNat_lt _
  have hx3 : ((s.drop i).getD 3 0).toNat < 256 := UInt8.toNat_lt _
  have gex : ∀ k, k < s.length - i → s[i + k]? = some ((s.drop i).getD k 0) := by
    intro k hk
    rw [List.getD_eq_getElem?_getD, List.getElem?_drop, List.getElem?_eq_getElem (by omega)]; rfl
  have bad : ∀ d : Nat × Nat, decS (s.drop i) = d → d = (65533, 1) → (some (0, 0) : Option (Int × Int)) = some (codeI (s.drop i)) := by
    intro d h1 h2
    rw [codeI_of hne h1, h2, if_pos ⟨rfl, rfl⟩]
  have good : ∀ c k : Nat, decS (s.drop i) = (c, k) → k ≠ 1 → (some ((c : Int), (k : Int)) : Option (Int × Int)) = some (codeI (s.drop i)) := by
    intro c k h1 h2
    rw [codeI_of hne h1, if_neg (by rintro ⟨_, h⟩; exact h2 h)]
  generalize hy1 : (s.drop i).getD 1 0 = y1 at *
  generalize hy2 : (s.drop i).getD 2 0 = y2 at *
  generalize hy3 : (s.drop i).getD 3 0 = y3 at *
  have gy1 : 1 < s.length - i → s[i + 1]? = some y1 := fun h => by rw [gex 1 h, hy1]
  have gy2 : 2 < s.length - i → s[i + 2]? = some y2 := fun h => by rw [gex 2 h, hy2]
  have gy3 : 3 < s.length - i → s[i + 3]? = some y3 := fun h => by rw [gex 3 h, hy3]
  simp only [seineref1_Code_B, e1, e2, cnd_f, e3, bnd_s, e4, e5]
  by_cases c1 : b0.toNat < 128
  · have d1 : decide ((b0.toNat : Int) < 128) = true := by simp; omega
    simp only [d1, cnd_t]
    have : Go.Lib.decodeN (s.length - i) b0.toNat y1.toNat y2.toNat y3.toNat = (b0.toNat, 1) := by unfold Go.Lib.decodeN; rw [if_pos c1]
    rw [codeI_of hne (hd.trans this), if_neg (by rintro ⟨h, _⟩; simp only at h; omega)]; rfl
  have d1 : decide ((b0.toNat : Int) < 128) = false := by simp; omega
  simp only [d1, cnd_f]
  by_cases c2 : b0.toNat < 224
  · have dd := dN2 (n := s.length - i) (x2 := y2.toNat) (x3 := y3.toNat) (by omega) c2 hx1
    by_cases c3 : 194 ≤ b0.toNat
    · have d2 : decide ((b0.toNat : Int) ≥ 194) = true := by simp; omega
      have d3 : decide ((b0.toNat : Int) < 224) = true := by simp; omega
      simp only [d2, d3, cnd_t]
      by_cases c4 : 1 < s.length - i
      · have d4 : decide ((2 : Int) > ((s.length - i : Nat) : Int)) = false := by simp; omega
        simp only [d4, cnd_f, and31 ⟨b0.toNat, hx0⟩]
        have L := tail_loop (b := seineref1_Code_l1T s (i : Int)) s i 2 hs (by omega) (fun c k _ => rfl)
        obtain ⟨l1, _⟩ := L (b0.toNat % 32) 1 (by omega)
        obtain ⟨l1a, l1b⟩ := l1 (by omega) y1 (gy1 c4)
        rw [show ((1 : Nat) : Int) = 1 from rfl] at l1a l1b
        by_cases c5 : 128 ≤ y1.toNat ∧ y1.toNat ≤ 191
        · have l2 := (L (b0.toNat % 32 * 64 + y1.toNat % 64) 2 (by omega)).2 rfl
          rw [l1b c5, l2]
          have q1 : decide (((b0.toNat % 32 * 64 + y1.toNat % 64 : Nat) : Int) < 128) = false := by simp; omega
          have q2 : decide (((b0.toNat % 32 * 64 + y1.toNat % 64 : Nat) : Int) > 1114111) = false := by simp; omega
          have q3 : decide (((b0.toNat % 32 * 64 + y1.toNat % 64 : Nat) : Int) ≥ 55296) = false := by simp; omega
          simp only [bnd_s, elim_inl, q1, q2, q3, cnd_f]
          rw [if_pos ⟨c3, c4, c5⟩] at dd
          exact good _ 2 (hd.trans dd) (by decide)
        · rw [l1a (by omega)]
          simp only [bnd_s, elim_inr]
          rw [if_neg (by omega)] at dd
          exact bad _ (hd.trans dd) rfl
      · have d4 : decide ((2 : Int) > ((s.length - i : Nat) : Int)) = true := by simp; omega
        simp only [d4, cnd_t]
        rw [if_neg (by omega)] at dd
        exact bad _ (hd.trans dd) rfl
    · have d2 : decide ((b0.toNat : Int) ≥ 194) = false := by simp; omega
      have d3 : decide ((b0.toNat : Int) ≥ 224) = false := by simp; omega
      have d4 : decide ((b0.toNat : Int) ≥ 240) = false := by simp; omega
      simp only [d2, d3, d4, cnd_f]
      rw [if_neg (by omega)] at dd
      exact bad _ (hd.trans dd) rfl
  have d2 : decide ((b0.toNat : Int) ≥ 194) = true := by simp; omega
  have d3 : decide ((b0.toNat : Int) < 224) = false := by simp; omega
  have d4 : decide ((b0.toNat : Int) ≥ 224) = true := by simp; omega
  simp only [d2, d3, d4, cnd_t, cnd_f]
  by_cases c3 : b0.toNat < 240
  · have d5 : decide ((b0.toNat : Int) < 240) = true := by simp; omega
    simp only [d5, cnd_t]
    have dd := dN3 (n := s.length - i) (x3 := y3.toNat) (by omega) c3 hx1 hx2
    by_cases c4 : 2 < s.length - i
    · have d6 : decide ((3 : Int) > ((s.length - i : Nat) : Int)) = false := by simp; omega
      simp only [d6, cnd_f, and15 ⟨b0.toNat, hx0⟩]
      have L := tail_loop (b := seineref1_Code_l2T s (i : Int)) s i 3 hs (by omega) (fun c k _ => rfl)
      obtain ⟨l1, _⟩ := L (b0.toNat % 16) 1 (by omega)
      obtain ⟨l1a, l1b⟩ := l1 (by omega) y1 (gy1 (by omega))
      rw [show ((1 : Nat) : Int) = 1 from rfl] at l1a l1b
      by_cases c5 : 128 ≤ y1.toNat ∧ y1.toNat ≤ 191
      · rw [l1b c5]
        obtain ⟨l2, _⟩ := L (b0.toNat % 16 * 64 + y1.toNat % 64) 2 (by omega)
        obtain ⟨l2a, l2b⟩ := l2 (by omega) y2 (gy2 c4)
        by_cases c6 : 128 ≤ y2.toNat ∧ y2.toNat ≤ 191
        · rw [l2b c6]
          have l3 := (L ((b0.toNat % 16 * 64 + y1.toNat % 64) * 64 + y2.toNat % 64) 3 (by omega)).2 rfl
          rw [l3]
          have ec : (b0.toNat % 16 * 64 + y1.toNat % 64) * 64 + y2.toNat % 64 = b0.toNat % 16 * 4096 + y1.toNat % 64 * 64 + y2.toNat % 64 := by omega
          rw [ec]
          generalize b0.toNat % 16 * 4096 + y1.toNat % 64 * 64 + y2.toNat % 64 = c at *
          have hcb : c ≤ 65535 := by omega
          simp only [bnd_s, elim_inl]
          by_cases q1 : c < 2048
          · have r1 : decide ((c : Int) < 2048) = true := by simp; omega
            simp only [r1, cnd_t]
            rw [if_neg (by omega)] at dd
            exact bad _ (hd.trans dd) rfl
          · have r1 : decide ((c : Int) < 2048) = false := by simp; omega
            have r2 : decide ((c : Int) > 1114111) = false := by simp; omega
            simp only [r1, r2, cnd_f]
            by_cases q2 : 55296 ≤ c
            · have r3 : decide ((c : Int) ≥ 55296) = true := by simp; omega
              simp only [r3, cnd_t]
              by_cases q3 : c < 57344
              · have r4 : decide ((c : Int) < 57344) = true := by simp; omega
                simp only [r4, cnd_t]
                rw [if_neg (by omega)] at dd
                exact bad _ (hd.trans dd) rfl
              · have r4 : decide ((c : Int) < 57344) = false := by simp; omega
                simp only [r4, cnd_f]
                rw [if_pos ⟨⟨by omega, c5⟩, ⟨c4, c6⟩, by omega, by omega⟩] at dd
                exact good _ 3 (hd.trans dd) (by decide)
            · have r3 : decide ((c : Int) ≥ 55296) = false := by simp; omega
              simp only [r3, cnd_f]
              rw [if_pos ⟨⟨by omega, c5⟩, ⟨c4, c6⟩, by omega, by omega⟩] at dd
              exact good _ 3 (hd.trans dd) (by decide)
        · rw [l2a (by omega)]
          simp only [bnd_s, elim_inr]
          rw [if_neg (by omega)] at dd
          exact bad _ (hd.trans dd) rfl
      · rw [l1a (by omega)]
        simp only [bnd_s, elim_inr]
        rw [if_neg (by omega)] at dd
        exact bad _ (hd.trans dd) rfl
    · have d6 : decide ((3 : Int) > ((s.length - i : Nat) : Int)) = true := by simp; omega
      simp only [d6, cnd_t]
      rw [if_neg (by omega)] at dd
      exact bad _ (hd.trans dd) rfl
  have d5 : decide ((b0.toNat : Int) < 240) = false := by simp; omega
  have d6 : decide ((b0.toNat : Int) ≥ 240) = true := by simp; omega
  simp only [d5, d6, cnd_f, cnd_t]
  have dd := dN4 (n := s.length - i) (by omega) hx0 hx1 hx2 hx3
  by_cases c4 : b0.toNat < 245
  · have d7 : decide ((b0.toNat : Int) < 245) = true := by simp; omega
    simp only [d7, cnd_t]
    by_cases c5 : 3 < s.length - i
    · have d8 : decide ((4 : Int) > ((s.length - i : Nat) : Int)) = false := by simp; omega
      simp only [d8, cnd_f, and7 ⟨b0.toNat, hx0⟩]
      have L := tail_loop (b := seineref1_Code_l3T s (i : Int)) s i 4 hs (by omega) (fun c k _ => rfl)
      obtain ⟨l1, _⟩ := L (b0.toNat % 8) 1 (by omega)
      obtain ⟨l1a, l1b⟩ := l1 (by omega) y1 (gy1 (by omega))
      rw [show ((1 : Nat) : Int) = 1 from rfl] at l1a l1b
      by_cases c6 : 128 ≤ y1.toNat ∧ y1.toNat ≤ 191
      · rw [l1b c6]
        obtain ⟨l2, _⟩ := L (b0.toNat % 8 * 64 + y1.toNat % 64) 2 (by omega)
        obtain ⟨l2a, l2b⟩ := l2 (by omega) y2 (gy2 (by omega))
        by_cases c7 : 128 ≤ y2.toNat ∧ y2.toNat ≤ 191
        · rw [l2b c7]
          obtain ⟨l3, _⟩ := L ((b0.toNat % 8 * 64 + y1.toNat % 64) * 64 + y2.toNat % 64) 3 (by omega)
          obtain ⟨l3a, l3b⟩ := l3 (by omega) y3 (gy3 c5)
          by_cases c8 : 128 ≤ y3.toNat ∧ y3.toNat ≤ 191
          · rw [l3b c8]
            have ec : ((b0.toNat % 8 * 64 + y1.toNat % 64) * 64 + y2.toNat % 64) * 64 + y3.toNat % 64 = b0.toNat % 8 * 262144 + y1.toNat % 64 * 4096 + y2.toNat % 64 * 64 + y3.toNat % 64 := by omega
            have hcb : b0.toNat % 8 * 262144 + y1.toNat % 64 * 4096 + y2.toNat % 64 * 64 + y3.toNat % 64 < 2097152 := by omega
            have h0 : seineref1_Code_l3T s (i : Int) ((((b0.toNat % 8 * 64 + y1.toNat % 64) * 64 + y2.toNat % 64) * 64 + y3.toNat % 64 : Nat), ((4 : Nat) : Int)) = some (.inr (.inl ((((b0.toNat % 8 * 64 + y1.toNat % 64) * 64 + y2.toNat % 64) * 64 + y3.toNat % 64 : Nat) : Int))) := rfl
            rw [tloop_exit h0, ec]
            generalize b0.toNat % 8 * 262144 + y1.toNat % 64 * 4096 + y2.toNat % 64 * 64 + y3.toNat % 64 = c at *
            simp only [bnd_s, elim_inl]
            by_cases q1 : c < 65536
            · have r1 : decide ((c : Int) < 65536) = true := by simp; omega
              simp only [r1, cnd_t]
              rw [if_neg (by omega)] at dd
              exact bad _ (hd.trans dd) rfl
            · have r1 : decide ((c : Int) < 65536) = false := by simp; omega
              simp only [r1, cnd_f]
              by_cases q2 : c ≤ 1114111
              · have r2 : decide ((c : Int) > 1114111) = false := by simp; omega
                have r3 : decide ((c : Int) ≥ 55296) = true := by simp; omega
                have r4 : decide ((c : Int) < 57344) = false := by simp; omega
                simp only [r2, r3, r4, cnd_t, cnd_f]
                rw [if_pos ⟨c4, ⟨by omega, c6⟩, ⟨by omega, c7⟩, ⟨c5, c8⟩, by omega, q2⟩] at dd
                exact good _ 4 (hd.trans dd) (by decide)
              · have r2 : decide ((c : Int) > 1114111) = true := by simp; omega
                simp only [r2, cnd_t]
                rw [if_neg (by omega)] at dd
                exact bad _ (hd.trans dd) rfl
          · rw [l3a (by omega)]
            simp only [bnd_s, elim_inr]
            rw [if_neg (by omega)] at dd
            exact bad _ (hd.trans dd) rfl
        · rw [l2a (by omega)]
          simp only [bnd_s, elim_inr]
          rw [if_neg (by omega)] at dd
          exact bad _ (hd.trans dd) rfl
      · rw [l1a (by omega)]
        simp only [bnd_s, elim_inr]
        rw [if_neg (by omega)] at dd
        exact bad _ (hd.trans dd) rfl
    · have d8 : decide ((4 : Int) > ((s.length - i : Nat) : Int)) = true := by simp; omega
      simp only [d8, cnd_t]
      rw [if_neg (by omega)] at dd
      exact bad _ (hd.trans dd) rfl
  · have d7 : decide ((b0.toNat : Int) < 245) = false := by simp; omega
    simp only [d7, cnd_f]
    rw [if_neg (by omega)] at dd
    exact bad _ (hd.trans dd) rfl
end Go.Proofs.YtanjedcndpcgfaaDoor

/-
  Layer 1: loops over code points; the statements, of the typed functions.
-/
set_option linter.unusedVariables false
set_option linter.unusedSimpArgs false
open Go Go.Ev
namespace Go.Proofs.YtanjedcndpcgfaaDoor

/-- Code points as the model's numbers. -/
def intN (l : List Nat) : List Int := l.map fun n : Nat => (n : Int)
theorem codeI_none {s : Str} (h : decR s = none) : codeI s = (0, 0) := by unfold codeI; rw [h]
theorem codeI_some {s : Str} {c k : Nat} (h : decR s = some (c, k)) : codeI s = ((c : Int), (k : Int)) := by unfold codeI; rw [h]
theorem okC_le {c : Nat} (h : okC c) : c ≤ 1114111 := by unfold okC at h; omega
/-- A loop over code points, and what is made of them. -/
theorem cp_loop {β ρ : Type} {b : (β × Int) → Option ((β × Int) ⊕ ρ)} (s : Str) (hs : s.length ≤ 1073741824) (g : β → Nat → β) (F : Option (List Nat) → β → ρ) (I : Nat → β → Prop)
    (hend : ∀ a, I s.length a → b (a, (s.length : Int)) = some (.inr (F (some []) a)))
    (hbad : ∀ (i : Nat) a, i < s.length → I i a → decR (s.drop i) = none → b (a, (i : Int)) = some (.inr (F none a)))
    (hcons : ∀ (i : Nat) a (c k : Nat), i < s.length → I i a → decR (s.drop i) = some (c, k) → i + k ≤ s.length → okC c → 1 ≤ k → k ≤ 4 → (b (a, (i : Int)) = some (.inl (g a c, ((i + k : Nat) : Int))) ∧ I (i + k) (g a c) ∧ ∀ r : Option (List Nat), F (r.map (c :: ·)) a = F r (g a c)) ∨ ∀ r : Option (List Nat), b (a, (i : Int)) = some (.inr (F (r.map (c :: ·)) a))) :
    ∀ (i : Nat) a, i ≤ s.length → I i a → tloop b (a, (i : Int)) = some (F (cps (s.drop i)) a) := by
  have key : ∀ (n i : Nat) a, s.length - i ≤ n → i ≤ s.length → I i a → tloop b (a, (i : Int)) = some (F (cps (s.drop i)) a) := by
    intro n
    induction n with
    | zero =>
      intro i a h1 h2 hI
      have : i = s.length := by omega
      subst this
      rw [tloop_exit (hend a hI), List.drop_length, cps_nil]
    | succ n ih =>
      intro i a h1 h2 hI
      by_cases hi : i = s.length
      · subst hi
        rw [tloop_exit (hend a hI), List.drop_length, cps_nil]
      · have hlt : i < s.length := by omega
        cases hd : decR (s.drop i) with
        | none => rw [tloop_exit (hbad i a hlt hI hd), cps_none (drop_ne hlt) hd]
        | some x =>
          obtain ⟨c, k⟩ := x
          obtain ⟨h3, h4, h5, h6, h7, h8⟩ := decR_some hd
          rw [List.length_drop] at h8
          rw [cps_some hd, List.drop_drop]
          rcases hcons i a c k hlt hI hd (by omega) h3 h6 h7 with ⟨hb, hI', hF⟩ | hb
          · rw [tloop_next hb, ih (i + k) _ (by omega) (by omega) hI', hF]
          · exact tloop_exit (hb _)
  exact fun i a h hI => key _ i a (Nat.le_refl _) h hI
theorem wk {i k : Nat} (h : i + k ≤ 1073741824) : IntKind.wrap .i64 ((i : Int) + (k : Int)) = ((i + k : Nat) : Int) := by rw [wi (by omega)]; omega
theorem lt_true {i n : Nat} (h : i < n) : decide ((i : Int) < (n : Int)) = true := by simp; omega
def codesF : Option (List Nat) → List Int → (List Int) ⊕ Unit
  | some l, a => .inl (a ++ intN l)
  | none, _ => .inr ()
theorem seineref1_Codes_ok (s : Str) (hs : s.length ≤ 1073741824) : seineref1_Codes s = some (match cps s with | some l => (intN l, true) | none => ([], false)) := by
  apply seineref1_Codes_run
  have h := cp_loop (b := seineref1_Codes_l1T s) s hs (fun a c => a ++ [(c : Int)]) codesF (fun i a => a.length ≤ i)
    (fun a _ => by simp only [seineref1_Codes_l1T, end_lt, cnd_f, codesF]; simp [intN])
    (fun i a hi _ hd => by simp only [seineref1_Codes_l1T, lt_true hi, cnd_t, seineref1_Code_nat s i hi hs, codeI_none hd, bnd_s]; rfl)
    (fun i a c k hi hI hd hk hc h1 h4 => by
      left
      have e : ((k : Int) == 0) = false := by simp; omega
      refine ⟨?_, by simp; omega, fun r => by cases r <;> simp [codesF, intN]⟩
      simp only [seineref1_Codes_l1T, lt_true hi, cnd_t, seineref1_Code_nat s i hi hs, codeI_some hd, bnd_s, e, cnd_f, tapp_ok (show a.length + [(c : Int)].length ≤ lim by simp [lim_val]; omega), wk (show i + k ≤ 1073741824 by omega)]) 0 [] (by omega) (by simp)
  rw [List.drop_zero] at h
  simp only [seineref1_Codes_B]
  rw [show tloop (seineref1_Codes_l1T s) ([], 0) = _ from h]
  cases cps s <;> simp [codesF]
theorem seineref1_Good_ok (s : Str) (hs : s.length ≤ 1073741824) : seineref1_Good s = some (cps s).isSome := by
  apply seineref1_Good_run
  simp only [seineref1_Good_B, seineref1_Codes_ok s hs, bnd_s]
  cases cps s <;> rfl
theorem letters_Good_ok (s : Str) (hs : s.length ≤ 1073741824) : letters_Good s = some (cps s).isSome := by
  apply letters_Good_run
  have : utf8_ValidString s = some (validS s) := utf8_ValidString_run (by unfold tValid; rw [if_pos (by omega)])
  simp only [letters_Good_B, this, bnd_s, validS_cps]
/-! units -/
theorem u16_len (c : Nat) : (u16 c).length ≤ 2 := by unfold u16; split <;> simp
theorem u16_big {c : Nat} (h : okC c) (h1 : 65536 ≤ c) : [(IntKind.wrap .i64 (55296 + (IntKind.wrap .i64 (Int.tdiv (IntKind.wrap .i64 ((c : Int) - 65536)) 1024)))), (IntKind.wrap .i64 (56320 + (Int.tmod (IntKind.wrap .i64 ((c : Int) - 65536)) 1024)))] = u16 c := by
  have hc := okC_le h
  have e1 : IntKind.wrap .i64 ((c : Int) - 65536) = ((c - 65536 : Nat) : Int) := by rw [wi (by omega)]; omega
  have e2 : Int.tdiv ((c - 65536 : Nat) : Int) 1024 = (((c - 65536) / 1024 : Nat) : Int) := by rw [Int.tdiv_eq_ediv_of_nonneg (by omega)]; omega
  have e3 : Int.tmod ((c - 65536 : Nat) : Int) 1024 = (((c - 65536) % 1024 : Nat) : Int) := by rw [Int.tmod_eq_emod_of_nonneg (by omega)]; omega
  rw [e1, e2, e3, wn (by omega), wi (by omega), wi (by omega)]
  unfold u16
  rw [if_neg (by omega)]
  congr 1
def unitsF : Option (List Nat) → List Int → (List Int) ⊕ Unit
  | some l, a => .inl (a ++ u16L l)
  | none, _ => .inr ()
theorem letters_Units_ok (s : Str) (hs : s.length ≤ 1073741824) : letters_Units s = some (match cps s with | some l => (u16L l, true) | none => ([], false)) := by
  apply letters_Units_run
  have h := cp_loop (b := letters_Units_l1T s) s hs (fun a c => a ++ u16 c) unitsF (fun i a => a.length ≤ 2 * i)
    (fun a _ => by simp only [letters_Units_l1T, end_lt, cnd_f, unitsF]; simp [u16L])
    (fun i a hi _ hd => by simp only [letters_Units_l1T, lt_true hi, cnd_t, letters_Code_nat s i hi hs, codeI_none hd, bnd_s]; rfl)
    (fun i a c k hi hI hd hk hc h1 h4 => by
      left
      have e : ((k : Int) == 0) = false := by simp; omega
      have ul := u16_len c
      have ta : tapp a (u16 c) = some (a ++ u16 c) := tapp_ok (by rw [lim_val]; omega)
      refine ⟨?_, by rw [List.length_append]; omega, fun r => by cases r <;> simp [unitsF, u16L]⟩
      simp only [letters_Units_l1T, lt_true hi, cnd_t, letters_Code_nat s i hi hs, codeI_some hd, bnd_s, e, cnd_f, wk (show i + k ≤ 1073741824 by omega)]
      by_cases hb : 65536 ≤ c
      · have d : decide ((c : Int) ≥ 65536) = true := by simp; omega
        rw [d, u16_big hc hb, ta]; rfl
      · have d : decide ((c : Int) ≥ 65536) = false := by simp; omega
        have : [(c : Int)] = u16 c := by unfold u16; rw [if_pos (by omega)]
        rw [d, this, ta]; rfl) 0 [] (by omega) (by simp)
  rw [List.drop_zero] at h
  simp only [letters_Units_B]
  rw [show tloop (letters_Units_l1T s) ([], 0) = _ from h]
  cases cps s <;> simp [unitsF]
theorem u16L_len (l : List Nat) : (u16L l).length ≤ 2 * l.length := by
  induction l with
  | nil => simp [u16L]
  | cons c l ih => have := u16_len c; simp only [u16L, List.flatMap_cons, List.length_append, List.length_cons] at ih ⊢; omega
set_option maxRecDepth 100000 in
theorem seineref1_Units_ok (s : Str) (hs : s.length ≤ 1073741824) : seineref1_Units s = some (match cps s with | some l => (u16L l, true) | none => ([], false)) := by
  apply seineref1_Units_run
  simp only [seineref1_Units_B, seineref1_Codes_ok s hs, bnd_s]
  cases hc : cps s with
  | none => rfl
  | some l =>
    obtain ⟨h1, h2, h3⟩ := enc_cps _ s l (Nat.le_refl _) hc
    have hll : (intN l).length = l.length := by simp [intN]
    have hl := loop_list (b := seineref1_Units_l1T (intN l, true)) l (fun k (a : List Int) => (a, (k : Int))) (fun r a => a ++ u16L r) (fun k a => a.length ≤ 2 * k) (by unfold Sm; omega)
      (fun a _ => by simp only [seineref1_Units_l1T, hll, end_lt, cnd_f]; simp [u16L])
      (fun k c r a hm hk hd q1 q2 q3 hI => by
        right
        have q1' : decide ((k : Int) < ((intN l).length : Int)) = true := by rw [hll]; exact q1
        have q2' : nthI (intN l) (k : Int) = some (c : Int) := by
          rw [nthI_nat] at q2 ⊢
          unfold intN
          rw [List.getElem?_map, q2]; rfl
        have ul := u16_len c
        have ta : tapp a (u16 c) = some (a ++ u16 c) := tapp_ok (by rw [lim_val]; omega)
        refine ⟨a ++ u16 c, ?_, by rw [List.length_append]; omega, by simp [u16L]⟩
        simp only [seineref1_Units_l1T, q1', q2', q3, cnd_t, bnd_s]
        by_cases hb : 65536 ≤ c
        · have d : decide ((c : Int) < 65536) = false := by simp; omega
          rw [d, u16_big (h2 c hm) hb, ta]; rfl
        · have d : decide ((c : Int) < 65536) = true := by simp; omega
          have : [(c : Int)] = u16 c := by unfold u16; rw [if_pos (by omega)]
          rw [d, this, ta]; rfl) (s := ([], 0)) (a := []) rfl (by simp)
    simp only [Bool.not_true, cnd_f, hl, bnd_s, List.nil_append]
/-! what a document may have -/
def signN (c : Nat) : Bool := c == 9 || c == 10 || c == 13 || (decide (32 ≤ c) && decide (c ≤ 65535))
def srcB (s : Str) : Bool := match cps s with
  | some l => l.all signN
  | none => false
theorem letters_sign_ok (c : Nat) : letters_sign (c : Int) = some (signN c) := by
  apply letters_sign_run
  have e : ∀ n : Nat, ((c : Int) == (n : Int)) = (c == n) := by intro n; rw [Bool.eq_iff_iff]; simp only [beq_iff_eq]; omega
  have e9 := e 9
  have e10 := e 10
  have e13 := e 13
  have e1 : decide ((c : Int) ≥ 32) = decide (32 ≤ c) := by rw [Bool.eq_iff_iff]; simp; omega
  have e2 : decide ((c : Int) ≤ 65535) = decide (c ≤ 65535) := by rw [Bool.eq_iff_iff]; simp; omega
  simp only [letters_sign_B]
  rw [show ((9 : Nat) : Int) = 9 from rfl] at e9
  rw [show ((10 : Nat) : Int) = 10 from rfl] at e10
  rw [show ((13 : Nat) : Int) = 13 from rfl] at e13
  rw [e9, e10, e13, e1, e2]
  unfold signN
  cases c == 9 <;> cases c == 10 <;> cases c == 13 <;> cases decide (32 ≤ c) <;> rfl
def srcF : Option (List Nat) → Unit → Unit ⊕ Unit
  | some l, _ => bif l.all signN then .inl () else .inr ()
  | none, _ => .inr ()
theorem letters_Source_ok (s : Str) (hs : s.length ≤ 1073741824) : letters_Source s = some (srcB s) := by
  apply letters_Source_run
  have h := cp_loop (b := fun x : Unit × Int => bnd (letters_Source_l1T s x.2) fun r => elim r (fun i => some (.inl ((), i))) (fun e => some (.inr e))) s hs (fun a c => a) srcF (fun i a => True)
    (fun a _ => by simp only [letters_Source_l1T, end_lt, cnd_f, bnd_s, elim_inr]; rfl)
    (fun i a hi _ hd => by simp only [letters_Source_l1T, lt_true hi, cnd_t, letters_Code_nat s i hi hs, codeI_none hd, bnd_s]; rfl)
    (fun i a c k hi hI hd hk hc h1 h4 => by
      have e : decide ((k : Int) > 0) = true := by simp; omega
      simp only [letters_Source_l1T, lt_true hi, cnd_t, letters_Code_nat s i hi hs, codeI_some hd, bnd_s, e, letters_sign_ok, wk (show i + k ≤ 1073741824 by omega)]
      cases hg : signN c
      · right; intro r
        cases r with
        | none => rfl
        | some r => simp [srcF, hg, cnd]
      · left
        exact ⟨rfl, trivial, fun r => by cases r <;> simp [srcF, hg]⟩) 0 () (by omega) trivial
  -- the same loop, without the unit
  have same : ∀ (n : Nat) (i : Int) (r : Unit ⊕ Unit), tloopN (fun x : Unit × Int => bnd (letters_Source_l1T s x.2) fun r => elim r (fun i => some (.inl ((), i))) (fun e => some (.inr e))) n ((), i) = some r → tloopN (letters_Source_l1T s) n i = some r := by
    intro n
    induction n with
    | zero => intro i r h; simp [tloopN] at h
    | succ n ih =>
      intro i r h
      simp only [tloopN] at h ⊢
      cases hb : letters_Source_l1T s i with
      | none => rw [hb] at h; simp [bnd] at h
      | some x =>
        rw [hb] at h
        cases x with
        | inl j => exact ih j r h
        | inr e => exact h
  obtain ⟨n, hn⟩ := tloop_some.1 h
  have h' := tloop_some.2 ⟨n, same n _ _ hn⟩
  rw [List.drop_zero] at h'
  simp only [letters_Source_B]
  rw [show tloop (letters_Source_l1T s) 0 = _ from h']
  unfold srcB
  cases cps s with
  | none => rfl
  | some l => simp only [bnd_s, srcF]; cases l.all signN <;> rfl
theorem seineref1_Source_ok (s : Str) (hs : s.length ≤ 1073741824) : seineref1_Source s = some (srcB s) := by
  apply seineref1_Source_run
  simp only [seineref1_Source_B, seineref1_Codes_ok s hs, bnd_s]
  unfold srcB
  cases hc : cps s with
  | none =>
    simp only
    rw [tloop_exit (r := .inl ()) (by simp [seineref1_Source_l1T, cnd])]; rfl
  | some l =>
    obtain ⟨h1, h2, h3⟩ := enc_cps _ s l (Nat.le_refl _) hc
    have hll : (intN l).length = l.length := by simp [intN]
    have hl := loop_idx (b := seineref1_Source_l1T (intN l, true)) l (fun r => bif r.all signN then (.inl () : Unit ⊕ Unit) else .inr ()) (by unfold Sm; omega) (by simp only [seineref1_Source_l1T, hll, end_lt, cnd_f]; rfl)
      (fun k c r hm q1 q2 q3 => by
        have q1' : decide ((k : Int) < ((intN l).length : Int)) = true := by rw [hll]; exact q1
        have q2' : nthI (intN l) (k : Int) = some (c : Int) := by
          rw [nthI_nat] at q2 ⊢
          unfold intN
          rw [List.getElem?_map, q2]; rfl
        have e : ∀ n : Nat, ((c : Int) != (n : Int)) = !(c == n) := by intro n; unfold bne; congr 1; rw [Bool.eq_iff_iff]; simp only [beq_iff_eq]; omega
        have e9 := e 9
        have e10 := e 10
        have e13 := e 13
        rw [show ((9 : Nat) : Int) = 9 from rfl] at e9
        rw [show ((10 : Nat) : Int) = 10 from rfl] at e10
        rw [show ((13 : Nat) : Int) = 13 from rfl] at e13
        have e1 : decide ((c : Int) < 32) = !decide (32 ≤ c) := by rw [Bool.eq_iff_iff]; simp; omega
        have e2 : decide ((c : Int) > 65535) = !decide (c ≤ 65535) := by rw [Bool.eq_iff_iff]; simp; omega
        simp only [seineref1_Source_l1T, q1', q2', q3, cnd_t, bnd_s, e9, e10, e13, e1, e2, List.all_cons, signN]
        by_cases c32 : 32 ≤ c
        · have f9 : (c == 9) = false := by simp; omega
          have f10 : (c == 10) = false := by simp; omega
          have f13 : (c == 13) = false := by simp; omega
          have f32 : decide (32 ≤ c) = true := by simpa using c32
          simp only [f9, f10, f13, f32]
          cases decide (c ≤ 65535)
          · left; rfl
          · right; exact ⟨rfl, rfl⟩
        · have f32 : decide (32 ≤ c) = false := by simpa using c32
          have f65 : decide (c ≤ 65535) = true := by simp; omega
          simp only [f32, f65]
          cases c == 9 <;> cases c == 10 <;> cases c == 13 <;> first | (left; rfl) | (right; exact ⟨rfl, rfl⟩))
    simp only
    rw [hl]
    simp only [bnd_s]
    cases l.all signN <;> rfl
/-! joining -/
theorem wu32 {n : Int} (h : 0 ≤ n ∧ n < 4294967296) : IntKind.wrap .u32 n = n := by rw [IntKind.wrap_u32]; omega
theorem lead2 : ∀ x : Fin 32, bits .or .u8 192 (IntKind.wrap .u8 (x.val : Int)) = ((192 + x.val : Nat) : Int) := by decide +kernel
theorem lead3 : ∀ x : Fin 16, bits .or .u8 224 (IntKind.wrap .u8 (x.val : Int)) = ((224 + x.val : Nat) : Int) := by decide +kernel
theorem lead4 : ∀ x : Fin 8, bits .or .u8 240 (IntKind.wrap .u8 (x.val : Int)) = ((240 + x.val : Nat) : Int) := by decide +kernel
theorem cont8 : ∀ x : Fin 256, bits .or .u8 128 (bits .and .u8 (x.val : Int) 63) = ((128 + x.val % 64 : Nat) : Int) := by decide +kernel
theorem contN (c : Nat) : bits .or .u8 128 (bits .and .u8 (IntKind.wrap .u8 (c : Int)) 63) = ((128 + c % 64 : Nat) : Int) := by
  have e : IntKind.wrap .u8 (c : Int) = ((c % 256 : Nat) : Int) := by rw [IntKind.wrap_u8]; omega
  rw [e, cont8 ⟨c % 256, by omega⟩]
  simp only
  rw [show c % 256 % 64 = c % 64 by omega]
theorem fdivN (c n : Nat) (k : Nat) (h : n = 2 ^ k) (hk : k ≤ 32) : Int.fdiv (c : Int) (2 ^ min (Int.toNat (k : Int)) 32) = ((c / n : Nat) : Int) := by
  have : min (Int.toNat (k : Int)) 32 = k := by omega
  rw [this, Int.fdiv_eq_ediv_of_nonneg _ (Int.le_of_lt (Int.pow_pos (by decide)))]
  subst h
  simp
theorem fd6 (c : Nat) : Int.fdiv (c : Int) (2 ^ min (Int.toNat 6) 32) = ((c / 64 : Nat) : Int) := fdivN c 64 6 rfl (by decide)
theorem fd12 (c : Nat) : Int.fdiv (c : Int) (2 ^ min (Int.toNat 12) 32) = ((c / 4096 : Nat) : Int) := fdivN c 4096 12 rfl (by decide)
theorem fd18 (c : Nat) : Int.fdiv (c : Int) (2 ^ min (Int.toNat 18) 32) = ((c / 262144 : Nat) : Int) := fdivN c 262144 18 rfl (by decide)
theorem intsT_enc {c : Nat} (h : okC c) : intsT (encC c) = (encN c).map fun n : Nat => (n : Int) := by
  unfold intsT encC
  rw [List.map_map]
  apply List.map_congr_left
  intro x hx
  simp only [Function.comp_apply]
  rw [u8_toNat (encN_lt h x hx)]
set_option maxRecDepth 100000 in
theorem AppendRune_ok (b : List Int) (c : Nat) (hc : okC c) (hb : b.length + 4 ≤ 274877906944) : utf8_AppendRune b (c : Int) = some (b ++ intsT (encC c)) := by
  have hle := okC_le hc
  have w : IntKind.wrap .u32 (c : Int) = (c : Int) := wu32 (by omega)
  have ta : ∀ l : List Int, l.length ≤ 4 → tapp b l = some (b ++ l) := fun l hl => tapp_ok (by rw [lim_val]; omega)
  apply utf8_AppendRune_run
  simp only [utf8_AppendRune_B, w]
  rw [intsT_enc hc]
  by_cases c1 : c < 128
  · have d : decide ((c : Int) ≤ 127) = true := by simp; omega
    have e : IntKind.wrap .u8 (c : Int) = (c : Int) := by rw [IntKind.wrap_u8]; omega
    simp only [d, cnd_t, e, ta [(c : Int)] (by simp), bnd_s]
    unfold encN; rw [if_pos c1]; rfl
  have d1 : decide ((c : Int) ≤ 127) = false := by simp; omega
  have na : utf8_appendRuneNonASCII b (c : Int) = some (b ++ (encN c).map fun n : Nat => (n : Int)) := by
    apply utf8_appendRuneNonASCII_run
    simp only [utf8_appendRuneNonASCII_B, w, fd6, fd12, fd18, contN]
    by_cases c2 : c < 2048
    · have d : decide ((c : Int) ≤ 2047) = true := by simp; omega
      have e := lead2 ⟨c / 64, by omega⟩
      simp only at e
      simp only [d, cnd_t, e, ta _ (show ([((192 + c / 64 : Nat) : Int), ((128 + c % 64 : Nat) : Int)]).length ≤ 4 by simp), bnd_s]
      unfold encN; rw [if_neg c1, if_pos c2]; rfl
    have d2 : decide ((c : Int) ≤ 2047) = false := by simp; omega
    simp only [d2, cnd_f]
    by_cases c3 : c < 65536
    · have e := lead3 ⟨c / 4096, by omega⟩
      simp only at e
      have t3 := ta ([((224 + c / 4096 : Nat) : Int), ((128 + c / 64 % 64 : Nat) : Int), ((128 + c % 64 : Nat) : Int)]) (by simp)
      have fin : (encN c).map (fun n : Nat => (n : Int)) = [((224 + c / 4096 : Nat) : Int), ((128 + c / 64 % 64 : Nat) : Int), ((128 + c % 64 : Nat) : Int)] := by
        unfold encN; rw [if_neg c1, if_neg c2, if_pos c3]; rfl
      simp only [e, t3, bnd_s, fin]
      by_cases c4 : c < 55296
      · have d : decide ((c : Int) < 55296) = true := by simp; omega
        simp only [d, cnd_t]
      · have d : decide ((c : Int) < 55296) = false := by simp; omega
        have d' : decide ((57343 : Int) < (c : Int)) = true := by simp; unfold okC at hc; omega
        have d'' : decide ((c : Int) ≤ 65535) = true := by simp; omega
        simp only [d, d', d'', cnd_t, cnd_f]
    · have e := lead4 ⟨c / 262144, by omega⟩
      simp only at e
      have t4 := ta ([((240 + c / 262144 : Nat) : Int), ((128 + c / 4096 % 64 : Nat) : Int), ((128 + c / 64 % 64 : Nat) : Int), ((128 + c % 64 : Nat) : Int)]) (by simp)
      have fin : (encN c).map (fun n : Nat => (n : Int)) = [((240 + c / 262144 : Nat) : Int), ((128 + c / 4096 % 64 : Nat) : Int), ((128 + c / 64 % 64 : Nat) : Int), ((128 + c % 64 : Nat) : Int)] := by
        unfold encN; rw [if_neg c1, if_neg c2, if_neg c3]; rfl
      have d : decide ((c : Int) < 55296) = false := by simp; omega
      have d' : decide ((57343 : Int) < (c : Int)) = true := by simp; omega
      have d'' : decide ((c : Int) ≤ 65535) = false := by simp; omega
      have d3 : decide ((c : Int) > 65535) = true := by simp; omega
      have d4 : decide ((c : Int) ≤ 1114111) = true := by simp; omega
      simp only [d, d', d'', d3, d4, cnd_t, cnd_f, e, t4, bnd_s, fin]
  simp only [d1, cnd_f, na, bnd_s]
def joinF : Option (List Nat) → List Int → (List Int) ⊕ Unit
  | some l, a => .inl (a ++ intsT (encL8 l))
  | none, _ => .inr ()
theorem intsT_append (a b : Str) : intsT (a ++ b) = intsT a ++ intsT b := by simp [intsT]
theorem joinF_cons (c : Nat) (r : Option (List Nat)) (a : List Int) : joinF (r.map (c :: ·)) a = joinF r (a ++ intsT (encC c)) := by
  cases r with
  | none => rfl
  | some l => simp only [Option.map_some, joinF]; congr 1; rw [List.append_assoc, ← intsT_append]; simp [encL8]
theorem enc_ints_len (c : Nat) : (intsT (encC c)).length ≤ 4 := by
  have := encC_pos c; simp only [intsT, List.length_map]; exact this.2
set_option maxRecDepth 100000 in
theorem join_loop (us : List Int) (hu : us.length ≤ 1073741824) : ∀ (n i : Nat) (a : List Int), us.length - i ≤ n → i ≤ us.length → a.length ≤ 4 * i → tloop (letters_Join_l1T us) (a, (i : Int)) = some (joinF (joinU (us.drop i)) a) := by
  intro n
  induction n with
  | zero =>
    intro i a h1 h2 h3
    have : i = us.length := by omega
    subst this
    rw [List.drop_length]
    exact tloop_exit (by simp only [letters_Join_l1T, end_lt, cnd_f]; simp [joinU, joinF, encL8, intsT])
  | succ n ih =>
    intro i a h1 h2 h3
    by_cases hi : i = us.length
    · subst hi
      rw [List.drop_length]
      exact tloop_exit (by simp only [letters_Join_l1T, end_lt, cnd_f]; simp [joinU, joinF, encL8, intsT])
    have hlt : i < us.length := by omega
    obtain ⟨u, hu0⟩ : ∃ u, us[i]? = some u := ⟨_, List.getElem?_eq_getElem hlt⟩
    have e1 : nthI us (i : Int) = some u := by rw [nthI_nat]; exact hu0
    have hd : us.drop i = u :: us.drop (i + 1) := by
      rw [List.drop_eq_getElem_cons hlt]; congr 1
      rw [List.getElem?_eq_getElem hlt] at hu0; exact Option.some.inj hu0
    have e2 : IntKind.wrap .i64 ((i : Int) + 1) = ((i + 1 : Nat) : Int) := wadd (by omega)
    have app : ∀ c : Nat, okC c → utf8_AppendRune a (c : Int) = some (a ++ intsT (encC c)) := fun c hc => AppendRune_ok a c hc (by omega)
    have one : 0 ≤ u → u ≤ 65535 → ¬ (55296 ≤ u ∧ u ≤ 57343) → letters_Join_l1T us (a, (i : Int)) = some (.inl (a ++ intsT (encC u.toNat), ((i + 1 : Nat) : Int))) := by
      intro q1 q2 q3
      have hk : okC u.toNat := by unfold okC; omega
      have hu' : IntKind.wrap .i32 u = ((u.toNat : Nat) : Int) := by rw [w32 (by omega)]; omega
      have d0 : decide (u < 0) = false := by simp; omega
      have d1 : decide (u > 65535) = false := by simp; omega
      simp only [letters_Join_l1T, lt_true hlt, cnd_t, e1, bnd_s, d0, d1, cnd_f, hu', app _ hk, e2]
      by_cases q4 : u ≥ 56320
      · have d2 : decide (u ≥ 56320) = true := by simpa using q4
        have d3 : decide (u ≤ 57343) = false := by simp; omega
        have d4 : decide (u ≥ 55296) = true := by simp; omega
        have d5 : decide (u < 56320) = false := by simp; omega
        simp only [d2, d3, d4, d5, cnd_t, cnd_f]
      · have d2 : decide (u ≥ 56320) = false := by simp; omega
        have d4 : decide (u ≥ 55296) = false := by simp; omega
        simp only [d2, d4, cnd_f]
    by_cases b1 : u < 0 ∨ 65535 < u ∨ (56320 ≤ u ∧ u ≤ 57343)
    · have hj : joinU (us.drop i) = none := by rw [hd]; unfold joinU; rw [if_pos b1]
      rw [hj]
      refine tloop_exit ?_
      simp only [letters_Join_l1T, lt_true hlt, cnd_t, e1, bnd_s]
      by_cases q0 : u < 0
      · have d0 : decide (u < 0) = true := by simpa using q0
        simp only [d0, cnd_t, joinF]
      · have d0 : decide (u < 0) = false := by simpa using q0
        by_cases q1 : u > 65535
        · have d1 : decide (u > 65535) = true := by simpa using q1
          simp only [d0, d1, cnd_t, cnd_f, joinF]
        · have d1 : decide (u > 65535) = false := by simpa using q1
          have d2 : decide (u ≥ 56320) = true := by simp; omega
          have d3 : decide (u ≤ 57343) = true := by simp; omega
          simp only [d0, d1, d2, d3, cnd_t, cnd_f, joinF]
    · by_cases b2 : 55296 ≤ u ∧ u < 56320
      · have d0 : decide (u < 0) = false := by simp; omega
        have d1 : decide (u > 65535) = false := by simp; omega
        have d2 : decide (u ≥ 56320) = false := by simp; omega
        have d4 : decide (u ≥ 55296) = true := by simp; omega
        have d5 : decide (u < 56320) = true := by simp; omega
        by_cases hi1 : i + 1 = us.length
        · have hj : joinU (us.drop i) = none := by
            rw [hd, show us.drop (i + 1) = [] by rw [hi1]; simp]
            unfold joinU
            rw [if_neg b1, if_pos b2.1, if_pos b2.2]
          rw [hj]
          refine tloop_exit ?_
          have d6 : (((i + 1 : Nat) : Int) == (us.length : Int)) = true := by rw [hi1]; simp
          simp only [letters_Join_l1T, lt_true hlt, cnd_t, e1, bnd_s, d0, d1, d2, d4, d5, cnd_f, e2, d6, joinF]
        · have hlt1 : i + 1 < us.length := by omega
          obtain ⟨v, hv0⟩ : ∃ v, us[i + 1]? = some v := ⟨_, List.getElem?_eq_getElem hlt1⟩
          have e3 : nthI us ((i + 1 : Nat) : Int) = some v := by rw [nthI_nat]; exact hv0
          have hd1 : us.drop (i + 1) = v :: us.drop (i + 2) := by
            rw [List.drop_eq_getElem_cons hlt1]; congr 1
            rw [List.getElem?_eq_getElem hlt1] at hv0; exact Option.some.inj hv0
          have d6 : (((i + 1 : Nat) : Int) == (us.length : Int)) = false := by simp; omega
          by_cases b3 : 56320 ≤ v ∧ v ≤ 57343
          · have hj : joinU (us.drop i) = (joinU (us.drop (i + 2))).map ((65536 + 1024 * (u.toNat - 55296) + (v.toNat - 56320)) :: ·) := by
              rw [hd, hd1]
              conv => lhs; unfold joinU
              rw [if_neg b1, if_pos b2.1, if_pos b2.2]
              simp only
              rw [if_pos b3]
            have hq1 : u.toNat - 55296 < 1024 := by omega
            have hq2 : v.toNat - 56320 < 1024 := by clear hq1; omega
            have hk := okC_pair _ _ hq1 hq2
            have d7 : decide (v < 56320) = false := by simp; omega
            have d8 : decide (v > 57343) = false := by simp; omega
            have e5 : IntKind.wrap .i64 (((i + 1 : Nat) : Int) + 1) = ((i + 2 : Nat) : Int) := wadd (by omega)
            have e6 : IntKind.wrap .i32 (IntKind.wrap .i64 ((IntKind.wrap .i64 ((IntKind.wrap .i64 (65536 + (IntKind.wrap .i64 (1024 * (IntKind.wrap .i64 (u - 55296)))))) + v)) - 56320)) = ((65536 + 1024 * (u.toNat - 55296) + (v.toNat - 56320) : Nat) : Int) := by
              have a1 : IntKind.wrap .i64 (u - 55296) = u - 55296 := wi (by omega)
              have a2 : IntKind.wrap .i64 (1024 * (u - 55296)) = 1024 * (u - 55296) := wi (by omega)
              have a3 : IntKind.wrap .i64 (65536 + 1024 * (u - 55296)) = 65536 + 1024 * (u - 55296) := wi (by omega)
              have a4 : IntKind.wrap .i64 (65536 + 1024 * (u - 55296) + v) = 65536 + 1024 * (u - 55296) + v := wi (by omega)
              have a5 : IntKind.wrap .i64 (65536 + 1024 * (u - 55296) + v - 56320) = 65536 + 1024 * (u - 55296) + v - 56320 := wi (by omega)
              rw [a1, a2, a3, a4, a5, w32 (by omega)]
              have u1 : ((u.toNat - 55296 : Nat) : Int) = u - 55296 := by omega
              have v1 : ((v.toNat - 56320 : Nat) : Int) = v - 56320 := by clear hq1 hq2 hk u1; omega
              rw [Int.natCast_add, Int.natCast_add, Int.natCast_mul, u1, v1]
              show 65536 + 1024 * (u - 55296) + v - 56320 = 65536 + 1024 * (u - 55296) + (v - 56320)
              omega
            rw [hj, joinF_cons]
            rw [tloop_next (s' := (a ++ intsT (encC (65536 + 1024 * (u.toNat - 55296) + (v.toNat - 56320))), ((i + 2 : Nat) : Int))) (by
              simp only [letters_Join_l1T, lt_true hlt, cnd_t, e1, bnd_s, d0, d1, d2, d4, d5, cnd_f, e2, d6, e3, d7, d8, e6, app _ hk, e5])]
            have := enc_ints_len (65536 + 1024 * (u.toNat - 55296) + (v.toNat - 56320))
            exact ih (i + 2) _ (by omega) (by omega) (by rw [List.length_append]; omega)
          · have hj : joinU (us.drop i) = none := by
              rw [hd, hd1]
              unfold joinU
              rw [if_neg b1, if_pos b2.1, if_pos b2.2]
              simp only
              rw [if_neg b3]
            rw [hj]
            refine tloop_exit ?_
            simp only [letters_Join_l1T, lt_true hlt, cnd_t, e1, bnd_s, d0, d1, d2, d4, d5, cnd_f, e2, d6, e3, joinF]
            by_cases q : v < 56320
            · have d7 : decide (v < 56320) = true := by simpa using q
              simp only [d7, cnd_t]
            · have d7 : decide (v < 56320) = false := by simpa using q
              have d8 : decide (v > 57343) = true := by simp; omega
              simp only [d7, d8, cnd_t, cnd_f]
      · have hj : joinU (us.drop i) = (joinU (us.drop (i + 1))).map (u.toNat :: ·) := by
          rw [hd]
          conv => lhs; unfold joinU
          rw [if_neg b1]
          split
          · rw [if_neg (by omega)]
          · rfl
        have := enc_ints_len u.toNat
        rw [hj, joinF_cons, tloop_next (one (by omega) (by omega) (by omega))]
        exact ih (i + 1) _ (by omega) (by omega) (by rw [List.length_append]; omega)
theorem bytesT_intsT (s : Str) : bytesT (intsT s) = s := by
  unfold bytesT intsT
  rw [List.map_map]
  conv => rhs; rw [← List.map_id s]
  apply List.map_congr_left
  intro b _
  simp
theorem letters_Join_ok (us : List Int) (hu : us.length ≤ 1073741824) : letters_Join us = some (match joinU us with | some l => (encL8 l, true) | none => ([], false)) := by
  apply letters_Join_run
  have h := join_loop us hu us.length 0 [] (by omega) (by omega) (by simp)
  rw [List.drop_zero] at h
  simp only [letters_Join_B]
  rw [show tloop (letters_Join_l1T us) ([], 0) = _ from h]
  cases joinU us with
  | none => rfl
  | some l => simp only [bnd_s, joinF, elim_inl, List.nil_append, bytesT_intsT]
theorem seinekeep_SameInts_self (l : List Int) (h : l.length ≤ 4294967296) : seinekeep_SameInts l l = some true := by
  apply seinekeep_SameInts_run
  have hl := loop_all (b := seinekeep_SameInts_l1T l l) l (.inl () : Unit ⊕ Unit) (by unfold Sm; omega) (by simp only [seinekeep_SameInts_l1T, end_lt, cnd_f])
    (fun k x hx h1 h2 h3 => by
      simp only [seinekeep_SameInts_l1T, h1, h2, h3, bnd_s, cnd_t, bne_self_eq_false, cnd_f])
  simp only [seinekeep_SameInts_B, bne_self_eq_false, cnd_f, hl, bnd_s, elim_inl]
end Go.Proofs.YtanjedcndpcgfaaDoor

/-
  Layer 1: the statements, of the typed functions.
-/
set_option linter.unusedVariables false
set_option linter.unusedSimpArgs false
open Go Go.Ev
namespace Go.Proofs.YtanjedcndpcgfaaDoor

theorem seinelaw1_awake_ok : seinelaw1_awake = some true := seinelaw1_awake_run 100 (by kernel_rfl)
theorem long3 {α : Type} {s : List α} : decide ((s.length : Int) > 3000) = true ∨ (decide ((s.length : Int) > 3000) = false ∧ s.length ≤ 3000) := by
  by_cases h : (s.length : Int) > 3000
  · left; simpa using h
  · right; exact ⟨by simpa using h, by omega⟩
theorem code_both (s : Str) (i : Int) (hs : s.length ≤ 1073741824) : ∃ x, letters_Code s i = some x ∧ seineref1_Code s i = some x := by
  by_cases h : 0 ≤ i ∧ i < s.length
  · obtain ⟨k, rfl⟩ := Int.eq_ofNat_of_zero_le h.1
    exact ⟨_, letters_Code_nat s k (by omega) hs, seineref1_Code_nat s k (by omega) hs⟩
  · exact ⟨_, letters_Code_out s i h, seineref1_Code_out s i h⟩
theorem LettersSays_ok (s : Str) (i : Int) : seinelaw1_LettersSays s i = some true := by
  apply seinelaw1_LettersSays_run
  simp only [seinelaw1_LettersSays_B, seinelaw1_awake_ok, bnd_s]
  rcases long3 (s := s) with h | ⟨h, hl⟩
  · rw [h]; rfl
  have hs : s.length ≤ 1073741824 := by omega
  obtain ⟨x, x1, x2⟩ := code_both s i hs
  simp only [h, cnd_f, x1, x2, letters_Units_ok s hs, seineref1_Units_ok s hs, letters_Good_ok s hs, seineref1_Good_ok s hs, letters_Source_ok s hs, seineref1_Source_ok s hs, letters_Name_ok s (by omega), seineref1_Name_ok s (by omega), bnd_s, beq_self_eq_true, cnd_t]
  cases hc : cps s with
  | none => simp only [seinekeep_SameInts_self [] (by simp), bnd_s, cnd_t]
  | some l =>
    have h3 := (enc_cps _ s l (Nat.le_refl _) hc).2.2
    have h4 := u16L_len l
    simp only [seinekeep_SameInts_self (u16L l) (by omega), bnd_s, cnd_t]
theorem LettersSource_ok (s t : Str) : seinelaw1_LettersSource s t = some true := by
  apply seinelaw1_LettersSource_run
  simp only [seinelaw1_LettersSource_B, seinelaw1_awake_ok, bnd_s]
  rcases long3 (s := s) with h | ⟨h, hl⟩
  · rw [h]; rfl
  rcases long3 (s := t) with h' | ⟨h', hl'⟩
  · rw [h, h']; rfl
  have hs : s.length ≤ 1073741824 := by omega
  have ht : t.length ≤ 1073741824 := by omega
  have hst : (s ++ t).length ≤ 1073741824 := by rw [List.length_append]; omega
  have ta : tapp s t = some (s ++ t) := tapp_ok (by rw [lim_val]; omega)
  simp only [h, h', cnd_f, letters_Source_ok s hs, letters_Source_ok t ht, letters_Good_ok s hs, letters_Good_ok t ht, ta, letters_Good_ok _ hst, letters_Source_ok _ hst, bnd_s]
  have src : srcB (s ++ t) = match cps s with | some l => (match cps t with | some m => l.all signN && m.all signN | none => false) | none => srcB (s ++ t) := by
    unfold srcB
    cases hc : cps s with
    | none => rfl
    | some l =>
      rw [cps_append s t l hc]
      cases cps t <;> simp
  have gd : (cps s).isSome = true → (cps (s ++ t)).isSome = (cps t).isSome := by
    intro hg
    cases hc : cps s with
    | none => rw [hc] at hg; simp at hg
    | some l =>
      rw [cps_append s t l hc]
      cases cps t <;> rfl
  cases hc : cps s with
  | none =>
    have : srcB s = false := by unfold srcB; rw [hc]
    simp only [this, cnd_f, Option.isSome_none, Bool.not_false, cnd_t]
  | some l =>
    have e : srcB s = l.all signN := by unfold srcB; rw [hc]
    rw [hc] at gd src
    have gd' := gd rfl
    simp only [Option.isSome_some, Bool.not_true, cnd_f, e, gd', src]
    cases hd : cps t with
    | none => cases l.all signN <;> rfl
    | some m =>
      have e' : srcB t = m.all signN := by unfold srcB; rw [hd]
      simp only [e', Option.isSome_some, Bool.not_true, cnd_f, cnd_t]
      cases l.all signN <;> cases m.all signN <;> rfl
theorem LettersBack_ok (s : Str) (us : List Int) : seinelaw1_LettersBack s us = some true := by
  apply seinelaw1_LettersBack_run
  simp only [seinelaw1_LettersBack_B, seinelaw1_awake_ok, bnd_s]
  rcases long3 (s := s) with h | ⟨h, hl⟩
  · rw [h]; rfl
  rcases long3 (s := us) with h' | ⟨h', hl'⟩
  · rw [h, h']; rfl
  have hs : s.length ≤ 1073741824 := by omega
  have hu : us.length ≤ 1073741824 := by omega
  simp only [h, h', cnd_f, letters_Units_ok s hs, letters_Good_ok s hs, letters_Join_ok us hu, bnd_s]
  have second : (bnd (some (match joinU us with | some l => (encL8 l, true) | none => (([] : Str), false))) fun y12 =>
          cnd (!y12.2)
           (cnd (y12.1 == ([] : Str))
            (some true)
            (some false))
           (bnd (letters_Units y12.1) fun y16 =>
           cnd y16.2
            (bnd (seinekeep_SameInts y16.1 us) fun y18 =>
            cnd y18
             (some true)
             (some false))
            (some false))) = some true := by
    cases hj : joinU us with
    | none => rfl
    | some l =>
      obtain ⟨j1, j2, j3⟩ := u16_joinU _ us l (Nat.le_refl _) hj
      have el : (encL8 l).length ≤ 4 * l.length := by
        clear j1 j2 j3 hj
        induction l with
        | nil => simp [encL8]
        | cons c l ih => have := encC_pos c; simp only [encL8, List.flatMap_cons, List.length_append, List.length_cons] at ih ⊢; omega
      have hc := cps_enc l j2
      simp only [bnd_s, Bool.not_true, cnd_f, letters_Units_ok (encL8 l) (by omega), hc, j1, cnd_t, seinekeep_SameInts_self us (by omega)]
  simp only [bnd_s] at second
  cases hc : cps s with
  | none =>
    have j0 : letters_Join [] = some ([], true) := letters_Join_ok [] (by simp)
    simp only [Option.isSome_none, beq_self_eq_true, Bool.not_true, Bool.not_false, cnd_f, cnd_t, List.length_nil, j0, bnd_s]
    exact second
  | some l =>
    obtain ⟨h1, h2, h3⟩ := enc_cps _ s l (Nat.le_refl _) hc
    have h4 := u16L_len l
    have jl : letters_Join (u16L l) = some (encL8 l, true) := by rw [letters_Join_ok _ (by omega), joinU_u16 l h2]
    simp only [Option.isSome_some, beq_self_eq_true, Bool.not_true, cnd_f, jl, bnd_s, cnd_t, ← h1]
    exact second
theorem LettersWalks_ok (s : Str) : seinelaw1_LettersWalks s = some true := by
  apply seinelaw1_LettersWalks_run
  simp only [seinelaw1_LettersWalks_B, seinelaw1_awake_ok, bnd_s]
  rcases long3 (s := s) with h | ⟨h, hl⟩
  · rw [h]; rfl
  have hs : s.length ≤ 1073741824 := by omega
  have loop := tloop_inv (b := seinelaw1_LettersWalks_l1T s) (fun i => ∃ k : Nat, i = (k : Int) ∧ k ≤ s.length ∧ (cps s).isSome = (cps (s.drop k)).isSome) (fun i => s.length - i.toNat)
    (fun r => ∃ i, r = .inl i ∧ ((cps s).isSome == (i == (s.length : Int))) = true) ?_ 0 ⟨0, rfl, by omega, by rw [List.drop_zero]⟩
  · obtain ⟨r, hr, i, rfl, hi⟩ := loop
    simp only [h, cnd_f, hr, bnd_s, elim_inl, letters_Good_ok s hs, hi, cnd_t]
  · rintro i ⟨k, rfl, hk, hg⟩
    by_cases hlt : k < s.length
    · cases hd : decR (s.drop k) with
      | none =>
        left
        refine ⟨.inl (k : Int), by simp only [seinelaw1_LettersWalks_l1T, lt_true hlt, cnd_t, letters_Code_nat s k hlt hs, codeI_none hd, bnd_s]; rfl, _, rfl, ?_⟩
        rw [hg, cps_none (drop_ne hlt) hd]
        have : ((k : Int) == (s.length : Int)) = false := by simp; omega
        rw [this]; rfl
      | some x =>
        obtain ⟨c, n⟩ := x
        obtain ⟨q1, q2, q3, q4, q5, q6⟩ := decR_some hd
        rw [List.length_drop] at q6
        have qc := okC_le q1
        right
        have e0 : ((n : Int) == 0) = false := by simp; omega
        have e1 : decide ((n : Int) < 1) = false := by simp; omega
        have e2 : decide ((n : Int) > 4) = false := by simp; omega
        have e3 : decide ((n : Int) > (IntKind.wrap .i64 ((s.length : Int) - (k : Int)))) = false := by rw [wi (by omega)]; simp; omega
        have e4 : decide ((c : Int) < 0) = false := by simp
        have e5 : decide ((c : Int) > 1114111) = false := by simp; omega
        have e6 : (!((((n : Int) == 1)) == (decide ((c : Int) < 128)))) = false := by
          have hn := q2
          rw [encC_len] at hn
          unfold encN at hn
          by_cases c1 : c < 128
          · rw [if_pos c1] at hn
            have d1 : ((n : Int) == 1) = true := by simp at hn ⊢; omega
            have d2 : decide ((c : Int) < 128) = true := by simp; omega
            rw [d1, d2]; rfl
          · rw [if_neg c1] at hn
            have hn2 : n ≠ 1 := by
              split at hn
              · simp at hn; omega
              · split at hn <;> simp at hn <;> omega
            have d1 : ((n : Int) == 1) = false := by simp; omega
            have d2 : decide ((c : Int) < 128) = false := by simp; omega
            rw [d1, d2]; rfl
        have e7 : IntKind.wrap .i64 ((k : Int) + (n : Int)) = ((k + n : Nat) : Int) := wk (by omega)
        have e8 : tslc s (k : Int) ((k + n : Nat) : Int) = some (encC c) := by
          rw [tslc_ok (by omega)]
          simp only [Int.toNat_natCast]
          rw [List.drop_take, show k + n - k = n by omega]
          conv => lhs; rw [q3]
          rw [q2]; simp
        have e9 : letters_Good (encC c) = some true := by
          have := encC_pos c
          rw [letters_Good_ok _ (by omega)]
          have h1 := cps_enc [c] (by simpa using q1)
          have h2 : encL8 [c] = encC c := by simp [encL8]
          rw [h2] at h1
          rw [h1]; rfl
        refine ⟨((k + n : Nat) : Int), ?_, ⟨k + n, rfl, by omega, ?_⟩, by simp only [Int.toNat_natCast]; omega⟩
        · simp only [seinelaw1_LettersWalks_l1T, lt_true hlt, cnd_t, letters_Code_nat s k hlt hs, codeI_some hd, bnd_s, e0, e1, e2, e3, e4, e5, e6, e7, e8, e9, cnd_f, Bool.not_true]
          by_cases c2 : 55296 ≤ c
          · have d1 : decide ((c : Int) ≥ 55296) = true := by simp; omega
            have d2 : decide ((c : Int) ≤ 57343) = false := by simp; unfold okC at q1; omega
            simp only [d1, d2, cnd_t, cnd_f]
          · have d1 : decide ((c : Int) ≥ 55296) = false := by simp; omega
            simp only [d1, cnd_f]
        · rw [hg, cps_some hd, List.drop_drop]
          cases cps (s.drop (k + n)) <;> rfl
    · have : k = s.length := by omega
      subst this
      left
      refine ⟨.inl (s.length : Int), by simp only [seinelaw1_LettersWalks_l1T, end_lt, cnd_f], _, rfl, ?_⟩
      rw [hg, List.drop_length, cps_nil]; simp
end Go.Proofs.YtanjedcndpcgfaaDoor

/-
  What is asked of the program as a whole.
-/
set_option linter.unusedVariables false
open Go Go.Ev
open Go.ChangeShapes Go.WideShapes Go.ChangeAt Go.RowKit
namespace Go.Proofs.YtanjedcndpcgfaaDoor
theorem mixed : Tryd.prog.follows .mixedOrders = true := by kernel_rfl
theorem names : (Tryd.prog.funcs.toList.all fun fn => !fn.body.isSome || !(fn.name == "runtime.NumGoroutine")) = true := by kernel_rfl
theorem laid : laidOutB Tryd.prog = true := by kernel_rfl
theorem pok : POk Tryd.prog := by
  refine ⟨mixed, fun f fn hf hb => ?_⟩
  have hm : fn ∈ Tryd.prog.funcs.toList := by
    have := Array.mem_of_getElem? hf
    simpa using this
  have := List.all_eq_true.1 names fn hm
  rw [hb] at this
  simpa using this
theorem blOk {H : Type} : BlOk (H := H) Rows.uptoBulk Rows.uptoBulkAll := by
  refine ⟨fun l => ?_, fun s => ?_, ?_, fun es sp => ?_, fun ps => ?_, fun d r => ?_⟩
  · cases l <;> simp [Rows.uptoBulk]
  · simp [Rows.uptoBulk]
  · simp [Rows.uptoBulk]
  · simp only [Rows.uptoBulk]; omega
  · simp only [Rows.uptoBulk]; omega
  · simp [Rows.uptoBulkAll]
theorem own : ownKnob Tryd.prog.godebug = none := by kernel_rfl
theorem firstE : (Rows.laid_unicode_utf8_first : DataW Unit) = Go.Lib.firstData := by kernel_rfl
theorem acceptE : (Rows.laid_unicode_utf8_acceptRanges : DataW Unit) = Go.Lib.acceptData := by kernel_rfl
def laidList : List (String × DataW Unit) := Rows.lettersSaysUptoRow.laid
theorem tabsOf {W : World} (h : laidMetH Tryd.prog laidList W) : Go.Lib.Utf8Tabs 0 1 W := by
  have h3 := Go.Lib.laidMet.reads h (.tail _ (.head _))
  have h4 := Go.Lib.laidMet.reads h (.head _)
  rw [firstE] at h3
  rw [acceptE] at h4
  exact utf8Tabs_of_readsT (ρ := Tryd.lays196_ren) (U8Types.of196 Tryd.lays196) ⟨by kernel_rfl, by kernel_rfl, by kernel_rfl, by kernel_rfl, by kernel_rfl, by kernel_rfl, by kernel_rfl⟩ h3 h4
theorem gmOf {W : World} (h : laidMetH Tryd.prog laidList W) : ∀ b i v, GM b i = some v → memW W b i = some v := by
  obtain ⟨t1, t2⟩ := tabsOf h
  intro b i v hv
  unfold GM at hv
  split at hv
  · rename_i hb; subst hb
    split at hv
    · rename_i hi; cases hv; exact (cell_mem (t1 i hi)).2
    · simp at hv
  · split at hv
    · rename_i hb; subst hb
      split at hv
      · rename_i hi
        cases hv
        obtain ⟨e1, e2⟩ := t2 (i / 2) (by omega)
        split
        · rename_i he
          rw [show 2 * (i / 2) = i by omega] at e1
          exact (cell_mem e1).2
        · rename_i he
          rw [show 2 * (i / 2) + 1 = i by omega] at e2
          exact (cell_mem e2).2
      · simp at hv
    · simp at hv
/-- A world for the witness: the two tables hold what their initialisers lay. -/
noncomputable def laidWorld (os : Os) : World :=
  let w0 := World.holding Tryd.prog os ⟨#[], #[], []⟩
  let put (h : Array Obj) (g : Nat) (cs : Array Value) : Array Obj := h.modify g fun
    | .cells _ t frozen => .cells cs t frozen
    | o => o
  let h1 := put w0.heap 0 (Go.Lib.firstTab.map fun z => Value.int .u8 z).toArray
  let h2 := put h1 1 ((List.range 16).flatMap fun i => [Value.int .u8 (Go.Lib.accLo i), Value.int .u8 (Go.Lib.accHi i)]).toArray
  { w0 with heap := h2 }
end Go.Proofs.YtanjedcndpcgfaaDoor

/-
  LettersWalks: a text is good just if one comes from code point to code point to its end; each takes one to four bytes, and is one, each by itself. Conditions: the row's own (bulk at most 1048576; utf8's two tables hold what their initialisers lay, which the card ties to the program's text).
-/
set_option linter.unusedVariables false
open Go Go.Ev
open Go.ChangeShapes Go.WideShapes Go.ChangeAt Go.RowKit
namespace Go.Proofs.YtanjedcndpcgfaaDoor
namespace lettersWalks
def fs : Ty := (.fcons .str .fnil)
theorem lawF : ∀ x : fs.den RS, good RS fs x → bulkL RS fs x ≤ 1048576 → OL Tryd.prog MT XT 5 (encL RS fs x) [] = some (.bool true, []) := by
  rintro ⟨x0, _⟩ g b
  have b' : bkStr x0 + (0) ≤ 1048576 := b
  obtain ⟨g0, _⟩ := g
  have g0' : gd1 x0 := g0
  have e : encL RS fs (x0, ()) = [PV.str x0] := rfl
  rw [e]
  change O 5 _ _ = _
  have h := seinelaw1_LettersWalks_spec (LettersWalks_ok x0)
  simpa only [tys, seinelaw1_LettersWalksE] using h
set_option maxRecDepth 100000 in
theorem contract (H : Type) (enc : TypeId × Value → H) (W : World) (base : Nat) (args : Array Value) (ds gs : List (DataW H)) (before : List MemPlace)
    (hval : ∀ (j : Nat) t v, Tryd.f5.params[j]? = some t → args[j]? = some v → Value.okWide Tryd.prog W .any base t v)
    (hW : DataW.Whole enc Tryd.prog Tryd.f5.params.toList Rows.lettersWalksSpec.vars false W args.toList ds gs before) (hk : Rows.uptoSmall H (ds ++ gs) = true) (hL : laidMetH Tryd.prog laidList W) :
    Calls Tryd.prog 5 args W fun e W' => ∃ v, e = .returned v ∧ Rows.lettersWalksSpec.post enc Tryd.prog Tryd.f5 false true false false W args v W' := by
  have hg : gs = [] := by
    obtain ⟨p, q, hA, hV, _⟩ := hW
    exact (trodVars_none hV).1
  have hb : Rows.uptoBulkAll ds ≤ 1048576 := by
    have := of_decide_eq_true hk
    simpa [hg] using this
  have hlen : ds.length = 1 := by
    obtain ⟨p, q, hA0, hV, _⟩ := hW
    have hA : DataW.TrodAll enc Tryd.prog W 0 (fun _ => true) true Tryd.f5.params.toList args.toList ds p := hA0
    rw [Tryd.params5] at hA
    obtain ⟨v0, vs0, d0, ds0, p0, q0, h0, rfl, rfl, ht0, r0⟩ := trodAll_cons hA
    obtain ⟨rfl, rfl, rfl⟩ := trodAll_nil r0
    rfl
  refine contract_glob (G := GM) pok xok laid blOk Tryd.func5 rfl (n := 9) (ρ := RS) (τ := TS) (fs := fs) (tb := 4) (by kernel_rfl) (by rw [show Tryd.f5.resultTypes = #[4] from rfl]) Tryd.underlying4 rfl (gmOf hL) (rok enc W blOk) ?_ hval hW hb lawF
  subst hg
  match ds, hlen with
  | [d0], _ => exact ⟨rfl, rfl, rfl⟩
theorem laid_met (os : Os) : laidMet Tryd.prog Rows.lettersWalksUptoRow.laid ((laidWorld os).forCall (fun _ _ => 0) ⟨#[], #[.string ⟨#[]⟩], []⟩).memory :=
  laidMet_of_run' 8 (by kernel_rfl) (by kernel_rfl)
theorem reads (os : Os) {H : Type} (enc : TypeId × Value → H) : ∃ places, DataW.whole enc Tryd.prog ((laidWorld os).forCall (fun _ _ => 0) ⟨#[], #[.string ⟨#[]⟩], []⟩).memory Tryd.f5.params.toList Rows.lettersWalksSpec.vars false (#[.string ⟨#[]⟩] : Array Value).toList 8 = some ([.lit (.string [])], [], places) :=
  ⟨[], by kernel_rfl⟩
set_option maxRecDepth 100000 in
theorem lifted (os : Os) (started : os.Started) (H : Type) (enc : TypeId × Value → H) (F : Stop.Interp) :
    ReturnsInHanded {} Tryd.checked os 5 .any ((Rows.OpenSpec.upto Rows.lettersWalksSpec).preRow enc Tryd.prog Tryd.f5 Rows.lettersWalksUptoRow.domain false Rows.lettersWalksUptoRow.laid) (((Rows.OpenSpec.upto Rows.lettersWalksSpec).at F).post enc Tryd.prog Tryd.f5 false true false false) := by
  obtain ⟨places, hx⟩ := reads os enc
  refine returnsInHanded_of_row (C := Tryd.checked) (s := Rows.OpenSpec.upto Rows.lettersWalksSpec) own started (by kernel_rfl) Tryd.func5
    (witness_row_at (enc := enc) (C := Tryd.checked) false (laidWorld os) #[.string ⟨#[]⟩] rfl (by kernel_rfl) (by kernel_rfl) (by kernel_rfl)
      (OpenSpec.preRow_of_cond 8 hx (by kernel_rfl) (fun k hk => by cases hk; kernel_rfl) (by kernel_rfl) (laid_met os))) ?_
  intro W base args ds gs before hval hW _ hcond _ hL _ _
  exact contract H enc W base args ds gs before hval hW (hcond _ rfl) hL
theorem over : Rows.lettersWalksUptoRow.holds Tryd.pinned (Rows.OpenSpec.upto Rows.lettersWalksSpec) :=
  OpenClaim.holds_of_cond 5 Tryd.f5 rfl rfl rfl rfl rfl rfl rfl ⟨rfl, rfl, rfl, rfl, rfl⟩ rfl rfl rfl rfl rfl (by kernel_rfl) Tryd.func5 (by kernel_rfl)
    (of_decide_eq_true (by kernel_rfl)) (by unfold Func.isWrapper; first | (rw [if_pos (by decide +kernel)]; kernel_rfl) | (rw [if_neg (by decide +kernel)]; exact ⟨rfl, rfl⟩))
    (fun os started H enc _ F => by rw [OpenClaim.pre_eq_preRow]; exact lifted os started H enc F)
/-- No parameter wants a stand-in; the program's own looks are off. -/
theorem plain (f : FuncId) (fn : Func) (hf : Tryd.pinned.checked.prog.funcNamed Rows.lettersWalksUptoRow.func = some f) (hfn : Tryd.pinned.checked.prog.funcs[f]? = some fn) :
    false = Tryd.pinned.checked.prog.looks [] ∧ ∀ (j : Nat) t, fn.params[j]? = some t → Tryd.pinned.checked.prog.wantsStandIn t = false := by
  obtain rfl : f = 5 := Option.some.inj ((show Tryd.prog.funcNamed Rows.lettersWalksUptoRow.func = some 5 by kernel_rfl).symm.trans hf) |>.symm
  obtain rfl : fn = Tryd.f5 := (Option.some.inj (Tryd.func5.symm.trans hfn)).symm
  refine ⟨by kernel_rfl, fun j t ht => ?_⟩
  have all : (Tryd.f5.params.toList.all fun t => !Tryd.prog.wantsStandIn t) = true := by kernel_rfl
  have hm : t ∈ Tryd.f5.params.toList := by
    have := Array.mem_of_getElem? ht
    simpa using this
  have := List.all_eq_true.1 all t hm
  exact (show Tryd.prog.wantsStandIn t = false by simpa using this)
theorem proved : Rows.LettersWalksUptoCardSaid :=
  Claim7.holds_tied_plain_at .later [] _ _ _ _ over (fun _ h => by cases h) (by kernel_rfl) (fun _ h => by cases h) lettersWalksUpto_row_tie rfl ⟨rfl, rfl⟩ (by kernel_rfl) rfl plain (by kernel_rfl)
end lettersWalks
end Go.Proofs.YtanjedcndpcgfaaDoor
