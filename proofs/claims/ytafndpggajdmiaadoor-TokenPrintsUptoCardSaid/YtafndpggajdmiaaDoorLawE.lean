/-
  TokenPrints: of any tokens: whether each may be, and how they are written, is the page's; they stay as they were. Conditions: the row's own (bulk at most 1048576; utf8's two tables hold what their initialisers lay, which the card ties to the program's text).
-/
import Derived.Test.YtafndpggajdmiaaDoorEGc
import Derived.Test.YtafndpggajdmiaaDoorEEd
import Derived.KernelRfl
import Derived.Test.YtafndpggajdmiaaDoorEGa
import Derived.Deep.DeepHandedRow
import Derived.Lib.LaidTab
import Derived.Lib.LaidU8T
import Derived.Test.YtafndpggajdmiaaDoorRows
import Derived.WalkKit
import Derived.ProofKit
import Derived.OpenShut
import Derived.JoinedCond
import Derived.Test.YtafndpggajdmiaaDoorCards
import Derived.Test.YtafndpggajdmiaaDoorTie
set_option linter.unusedVariables false
set_option linter.unusedSimpArgs false
set_option linter.unusedSimpArgs false
open Go Go.Ev
namespace Go.Proofs.YtafndpggajdmiaaDoor
def letter (c : Int) : Bool := (decide (97 ≤ c) && decide (c ≤ 122)) || ((decide (65 ≤ c) && decide (c ≤ 90)) || c == 95)
def digit (c : Int) : Bool := decide (48 ≤ c) && decide (c ≤ 57)
theorem ls_Letter_ok (c : Int) : ls_Letter c = some (letter c) := by
 apply ls_Letter_run
 simp only [ls_Letter_B, letter, cnd_ite, ge_iff_le]
 cases decide (97 ≤ c) <;> cases decide (c ≤ 122) <;> cases decide (65 ≤ c) <;> cases decide (c ≤ 90) <;> simp
theorem ls_Digit_ok (c : Int) : ls_Digit c = some (digit c) := by
 apply ls_Digit_run
 simp only [ls_Digit_B, digit, cnd_ite, ge_iff_le]
 cases decide (48 ≤ c) <;> simp
theorem r1_start_ok (c : Int) : r1_start c = some (letter c) := by
 apply r1_start_run
 simp only [r1_start_B, letter, cnd_ite, ge_iff_le]
 cases decide (97 ≤ c) <;> cases decide (c ≤ 122) <;> cases decide (65 ≤ c) <;> cases decide (c ≤ 90) <;> simp
theorem r1_digit_ok (c : Int) : r1_digit c = some (digit c) := by
 apply r1_digit_run
 simp only [r1_digit_B, digit, cnd_ite, ge_iff_le]
 cases decide (48 ≤ c) <;> simp
def inName (c : UInt8) : Bool := letter c.toNat || digit c.toNat
def isName : Str → Bool
 | [] => false
 | c :: s => letter c.toNat && s.all inName
theorem ls_Name_ok (s : Str) (h : s.length < 4611686018427387904) : ls_Name s = some (isName s) := by
 apply ls_Name_run
 have key := tloop_list (b := ls_Name_l1T s) s (fun k (_ : Unit) => (k : Int)) (fun r _ => if r.all (fun c => inName c) then Sum.inl () else Sum.inr ()) (fun k _ => 1 ≤ k)
  (by
   intro a _
   simp [ls_Name_l1T])
  (by
   intro k x r a hk hx hd hI
   have e1 : (decide ((k : Int) < (List.length s : Int))) = true := by simp; omega
   have e2 : ((k : Int) == 0) = false := by simp; omega
   have e3 : IntKind.wrap .i64 ((k : Int) + 1) = ((k + 1 : Nat) : Int) := wadd (by omega)
   simp only [ls_Name_l1T, e1, cnd_t, nthI_nat, hx, bnd_s, ls_Letter_ok, ls_Digit_ok, e2, cnd_f, e3]
   cases h1 : letter x.toNat <;> cases h2 : digit x.toNat <;> simp [inName, h1, h2])
 unfold ls_Name_B
 cases s with
 | nil =>
  rw [tloop_exit (r := .inl ()) (by simp [ls_Name_l1T])]
  simp [isName]
 | cons c s =>
  have e1 : (decide ((0 : Int) < (List.length (c :: s) : Int))) = true := by simp
  cases h1 : letter c.toNat with
  | false =>
   rw [tloop_exit (r := .inr ()) (by
    have : nthI (c :: s) 0 = some c := rfl
    simp only [ls_Name_l1T, e1, cnd_t, this, bnd_s, ls_Letter_ok, h1]; rfl)]
   simp [isName, h1]
  | true =>
   rw [tloop_next (s' := ((1 : Nat) : Int)) (by
    have : nthI (c :: s) 0 = some c := rfl
    simp only [ls_Name_l1T, e1, cnd_t, this, bnd_s, ls_Letter_ok, h1]; rfl)]
   rw [key 1 () (by simp) (by omega)]
   simp only [List.drop_succ_cons, List.drop_zero, bnd_s, isName, h1, Bool.true_and]
   cases h2 : s.all inName <;> simp
theorem r1_Name_ok (s : Str) (h : s.length < 4611686018427387904) : r1_Name s = some (isName s) := by
 apply r1_Name_run
 have key := tloop_list (b := r1_Name_l1T s) s (fun k (_ : Unit) => (k : Int)) (fun r _ => if r.all (fun c => inName c) then Sum.inl () else Sum.inr ()) (fun k _ => 1 ≤ k)
  (by
   intro a _
   simp [r1_Name_l1T])
  (by
   intro k x r a hk hx hd hI
   have e1 : (decide ((k : Int) < (List.length s : Int))) = true := by simp; omega
   have e3 : IntKind.wrap .i64 ((k : Int) + 1) = ((k + 1 : Nat) : Int) := wadd (by omega)
   simp only [r1_Name_l1T, e1, cnd_t, nthI_nat, hx, bnd_s, r1_start_ok, r1_digit_ok, cnd_f, e3]
   cases h1 : letter x.toNat <;> cases h2 : digit x.toNat <;> simp [inName, h1, h2])
 unfold r1_Name_B
 cases s with
 | nil => rfl
 | cons c s =>
  have : nthI (c :: s) 0 = some c := rfl
  have e0 : ((c :: s) == ([] : Str)) = false := rfl
  simp only [e0, cnd_f, this, bnd_s, r1_start_ok]
  cases h1 : letter c.toNat with
  | false => simp [isName, h1]
  | true =>
   have := key 1 () (by simp) (by omega)
   rw [show ((1 : Nat) : Int) = 1 from rfl] at this
   simp only [Bool.not_true, cnd_f, this, List.drop_succ_cons, List.drop_zero, bnd_s, isName, h1, Bool.true_and]
   cases h2 : s.all inName <;> simp
open Go Go.Ev
theorem and63 : ∀ x : Fin 256, bits .and .i64 (x.val : Int) 63 = ((x.val % 64 : Nat) : Int) := by decide +kernel
theorem and31 : ∀ x : Fin 256, bits .and .i64 (x.val : Int) 31 = ((x.val % 32 : Nat) : Int) := by decide +kernel
theorem and15 : ∀ x : Fin 256, bits .and .i64 (x.val : Int) 15 = ((x.val % 16 : Nat) : Int) := by decide +kernel
theorem and7 : ∀ x : Fin 256, bits .and .i64 (x.val : Int) 7 = ((x.val % 8 : Nat) : Int) := by decide +kernel
theorem or_low {c x : Nat} (hc : c < 1073741824) (hx : x < 64) : bits .or .i64 ((c * 64 : Nat) : Int) (x : Int) = ((c * 64 + x : Nat) : Int) := by
 have h0 : bits .or .i64 ((c * 64 : Nat) : Int) (x : Int) = IntKind.wrap .i64 ((BitVec.ofInt 64 ((c * 64 : Nat) : Int) ||| BitVec.ofInt 64 (x : Int)).toNat : Int) := rfl
 have h1 : (BitVec.ofInt 64 ((c * 64 : Nat) : Int) ||| BitVec.ofInt 64 (x : Int)).toNat = c * 64 + x := by
  rw [BitVec.ofInt_natCast, BitVec.ofInt_natCast, BitVec.toNat_or, BitVec.toNat_ofNat, BitVec.toNat_ofNat, Nat.mod_eq_of_lt (by omega), Nat.mod_eq_of_lt (by omega)]
  have := Nat.two_pow_add_eq_or_of_lt (i := 6) (b := x) (by omega) c
  rw [show c * 64 = 2 ^ 6 * c by omega, ← this]
 rw [h0, h1]
 exact wn (by omega)
theorem more6 {c : Nat} (hc : c < 1048576) (x : UInt8) : bits .or .i64 (IntKind.wrap .i64 ((c : Int) * 2 ^ min (Int.toNat 6) 64)) (bits .and .i64 (IntKind.wrap .i64 (x.toNat : Int)) 63) = ((c * 64 + x.toNat % 64 : Nat) : Int) := by
 have hx : x.toNat < 256 := UInt8.toNat_lt _
 rw [wn (show x.toNat ≤ _ by omega), and63 ⟨x.toNat, hx⟩]
 have e : ((c : Int) * 2 ^ min (Int.toNat 6) 64) = ((c * 64 : Nat) : Int) := by
  rw [show (2 : Int) ^ min (Int.toNat 6) 64 = 64 from rfl]; omega
 rw [e, wn (by omega)]
 exact or_low (by omega) (by omega)
theorem dN2 {n x0 x1 x2 x3 : Nat} (h0 : 128 ≤ x0) (h : x0 < 224) (h1 : x1 < 256) : Go.Lib.decodeN n x0 x1 x2 x3 = if 194 ≤ x0 ∧ 1 < n ∧ 128 ≤ x1 ∧ x1 ≤ 191 then (x0 % 32 * 64 + x1 % 64, 2) else (65533, 1) := by
 unfold Go.Lib.decodeN
 rw [if_neg (by omega)]
 by_cases c : x0 / 32 = 6 ∧ (1 < n ∧ x1 / 64 = 2)
 ·rw [if_pos c]
  split
  ·rw [if_pos (by omega)]
  ·rw [if_neg (by omega)]
 ·rw [if_neg c, if_neg (by omega), if_neg (by omega), if_neg (by omega)]
theorem dN3 {n x0 x1 x2 x3 : Nat} (h0 : 224 ≤ x0) (h : x0 < 240) (h1 : x1 < 256) (h2 : x2 < 256) : Go.Lib.decodeN n x0 x1 x2 x3 = if (1 < n ∧ 128 ≤ x1 ∧ x1 ≤ 191) ∧ (2 < n ∧ 128 ≤ x2 ∧ x2 ≤ 191) ∧ 2048 ≤ x0 % 16 * 4096 + x1 % 64 * 64 + x2 % 64 ∧ (x0 % 16 * 4096 + x1 % 64 * 64 + x2 % 64 < 55296 ∨ 57344 ≤ x0 % 16 * 4096 + x1 % 64 * 64 + x2 % 64) then (x0 % 16 * 4096 + x1 % 64 * 64 + x2 % 64, 3) else (65533, 1) := by
 unfold Go.Lib.decodeN
 rw [if_neg (by omega), if_neg (by omega)]
 by_cases c : x0 / 16 = 14 ∧ (1 < n ∧ x1 / 64 = 2) ∧ (2 < n ∧ x2 / 64 = 2)
 ·rw [if_pos c]
  split
  ·rw [if_pos (by omega)]
  ·rw [if_neg (by omega)]
 ·rw [if_neg c, if_neg (by omega), if_neg (by omega)]
theorem dN4 {n x0 x1 x2 x3 : Nat} (h0 : 240 ≤ x0) (h : x0 < 256) (h1 : x1 < 256) (h2 : x2 < 256) (h3 : x3 < 256) : Go.Lib.decodeN n x0 x1 x2 x3 = if x0 < 245 ∧ (1 < n ∧ 128 ≤ x1 ∧ x1 ≤ 191) ∧ (2 < n ∧ 128 ≤ x2 ∧ x2 ≤ 191) ∧ (3 < n ∧ 128 ≤ x3 ∧ x3 ≤ 191) ∧ 65536 ≤ x0 % 8 * 262144 + x1 % 64 * 4096 + x2 % 64 * 64 + x3 % 64 ∧ x0 % 8 * 262144 + x1 % 64 * 4096 + x2 % 64 * 64 + x3 % 64 ≤ 1114111 then (x0 % 8 * 262144 + x1 % 64 * 4096 + x2 % 64 * 64 + x3 % 64, 4) else (65533, 1) := by
 unfold Go.Lib.decodeN
 rw [if_neg (by omega), if_neg (by omega), if_neg (by omega)]
 by_cases c : x0 / 8 = 30 ∧ (1 < n ∧ x1 / 64 = 2) ∧ (2 < n ∧ x2 / 64 = 2) ∧ (3 < n ∧ x3 / 64 = 2)
 ·rw [if_pos c]
  split
  ·rw [if_pos (by omega)]
  ·rw [if_neg (by omega)]
 ·rw [if_neg c, if_neg (by omega)]
def codeI (s : Str) : Int × Int := match decR s with
 | some (c, k) => ((c : Int), (k : Int))
 | none => (0, 0)
theorem codeI_of {s : Str} (hne : s ≠ []) {d : Nat × Nat} (h : decS s = d) : codeI s = if d.1 = 65533 ∧ d.2 = 1 then (0, 0) else ((d.1 : Int), (d.2 : Int)) := by
 unfold codeI decR
 rw [if_neg hne, h]
 split
 ·rename_i c k he
  split at he
  ·simp at he
  ·rename_i hb
   rw [if_neg hb]; simp only [Option.some.injEq] at he; rw [he]
 ·rename_i he
  split at he
  ·rename_i hb; rw [if_pos hb]
  ·simp at he
theorem decS_pos {s : Str} (hne : s ≠ []) : 1 ≤ (decS s).2 := by
 rw [decR_decodeN hne]
 unfold Go.Lib.decodeN
 repeat' split
 all_goals simp
theorem decS_small {s : Str} (hne : s ≠ []) : (decS s).1 ≤ 1114111 ∧ (decS s).2 ≤ 4 := by
 rw [decR_decodeN hne]
 have b0 : (s.getD 0 0).toNat < 256 := UInt8.toNat_lt _
 unfold Go.Lib.decodeN
 repeat' split
 all_goals (constructor <;> simp only <;> omega)
theorem tslc_dropI {α : Type} (l : List α) (k : Nat) (h : k ≤ l.length) : tslc l (k : Int) (l.length : Int) = some (l.drop k) := by
 unfold tslc
 simp; omega
theorem drop_ne {s : Str} {i : Nat} (h : i < s.length) : s.drop i ≠ [] := by
 intro e; have := congrArg List.length e; simp at this; omega
theorem ls_Code_nat (s : Str) (i : Nat) (h : i < s.length) (hs : s.length ≤ 1073741824) : ls_Code s (i : Int) = some (codeI (s.drop i)) := by
 apply ls_Code_run
 have e1 : decide ((i : Int) < 0) = false := by simp
 have e2 : decide ((i : Int) ≥ (s.length : Int)) = false := by simp; omega
 have e3 : uf_DecodeRuneInString (s.drop i) = some (((decS (s.drop i)).1 : Int), ((decS (s.drop i)).2 : Int)) := uf_DecodeRuneInString_run rfl
 have hne := drop_ne h
 have p1 := decS_pos hne
 have p2 := decS_small hne
 simp only [ls_Code_B, e1, e2, cnd_f, tslc_dropI s i (by omega), bnd_s, e3, codeI_of hne rfl]
 obtain ⟨c, hc⟩ : ∃ c, (decS (s.drop i)).1 = c := ⟨_, rfl⟩
 obtain ⟨k, hk⟩ : ∃ k, (decS (s.drop i)).2 = k := ⟨_, rfl⟩
 rw [hk] at p1
 rw [hc, hk] at p2
 rw [hc, hk]
 rw [wn (by omega)]
 by_cases h1 : c = 65533
 ·have d1 : ((c : Int) == 65533) = true := by simp; omega
  by_cases h2 : k = 1
  ·have d2 : decide ((k : Int) < 2) = true := by simp; omega
   rw [if_pos ⟨h1, h2⟩, d1, d2]; rfl
  ·have d2 : decide ((k : Int) < 2) = false := by simp; omega
   rw [if_neg (by rintro ⟨_, h⟩; exact h2 h), d1, d2]; rfl
 ·have d1 : ((c : Int) == 65533) = false := by simp; omega
  rw [if_neg (by rintro ⟨h, _⟩; exact h1 h), d1]; rfl
theorem tail_loop {b : (Int × Int) → Option ((Int × Int) ⊕ (Int ⊕ Unit))} (s : Str) (i n : Nat) (hs : s.length ≤ 1073741824) (hn : i + n ≤ s.length)
  (hb : ∀ (c : Nat) (k : Nat), c < 1048576 → b ((c : Int), (k : Int)) = cnd (decide ((k : Int) < (n : Int)))
   (bnd (nthI s (IntKind.wrap .i64 ((i : Int) + (k : Int)))) fun y9 =>
    cnd (decide ((IntKind.wrap .i64 (y9.toNat : Int)) < 128)) (some (.inr (.inr ())))
     (cnd (decide ((IntKind.wrap .i64 (y9.toNat : Int)) > 191)) (some (.inr (.inr ())))
      (some (.inl ((bits .or .i64 (IntKind.wrap .i64 ((c : Int) * 2 ^ min (Int.toNat 6) 64)) (bits .and .i64 (IntKind.wrap .i64 (y9.toNat : Int)) 63)), (IntKind.wrap .i64 ((k : Int) + 1)))))))
   (some (.inr (.inl (c : Int))))) (c k : Nat) (hc : c < 1048576) :
  (k < n → ∀ x, s[i + k]? = some x → (x.toNat < 128 ∨ 191 < x.toNat → tloop b ((c : Int), (k : Int)) = some (.inr ())) ∧ (128 ≤ x.toNat ∧ x.toNat ≤ 191 → tloop b ((c : Int), (k : Int)) = tloop b (((c * 64 + x.toNat % 64 : Nat) : Int), ((k + 1 : Nat) : Int)))) ∧
  (k = n → tloop b ((c : Int), (k : Int)) = some (.inl (c : Int))) := by
 constructor
 ·intro hk x hx
  have hxl : x.toNat < 256 := UInt8.toNat_lt _
  have h0 := hb c k hc
  have d0 : decide ((k : Int) < (n : Int)) = true := by simp; omega
  have e1 : IntKind.wrap .i64 ((i : Int) + (k : Int)) = ((i + k : Nat) : Int) := by rw [wi (by omega)]; omega
  have e2 : nthI s ((i + k : Nat) : Int) = some x := by rw [nthI_nat]; exact hx
  have e3 : IntKind.wrap .i64 (x.toNat : Int) = (x.toNat : Int) := wn (by omega)
  have e4 := more6 hc x
  rw [e3] at e4
  rw [d0, e1, e2] at h0
  simp only [cnd_t, bnd_s, e3, e4, wadd (show k < 9223372036854775807 by omega)] at h0
  constructor
  ·intro hbad
   by_cases hl : x.toNat < 128
   ·have d1 : decide ((x.toNat : Int) < 128) = true := by simp; omega
    rw [d1] at h0
    exact tloop_exit h0
   ·have d1 : decide ((x.toNat : Int) < 128) = false := by simp; omega
    have d2 : decide ((x.toNat : Int) > 191) = true := by simp; omega
    rw [d1, d2] at h0
    exact tloop_exit h0
  ·intro hg
   have d1 : decide ((x.toNat : Int) < 128) = false := by simp; omega
   have d2 : decide ((x.toNat : Int) > 191) = false := by simp; omega
   rw [d1, d2] at h0
   exact tloop_next h0
 ·rintro rfl
  have h0 := hb c k hc
  rw [end_lt] at h0
  exact tloop_exit h0
set_option maxRecDepth 100000 in
theorem r1_Code_nat (s : Str) (i : Nat) (h : i < s.length) (hs : s.length ≤ 1073741824) : r1_Code s (i : Int) = some (codeI (s.drop i)) := by
 apply r1_Code_run
 have hne := drop_ne h
 have e1 : decide ((i : Int) < 0) = false := by simp
 have e2 : decide ((i : Int) ≥ (s.length : Int)) = false := by simp; omega
 obtain ⟨b0, hb0⟩ : ∃ b, s[i]? = some b := ⟨_, List.getElem?_eq_getElem h⟩
 have e3 : nthI s (i : Int) = some b0 := by rw [nthI_nat]; exact hb0
 have hx0 : b0.toNat < 256 := UInt8.toNat_lt _
 have e4 : IntKind.wrap .i64 (b0.toNat : Int) = (b0.toNat : Int) := wn (by omega)
 have e5 : IntKind.wrap .i64 ((s.length : Int) - (i : Int)) = ((s.length - i : Nat) : Int) := by rw [wi (by omega)]; omega
 have g : ∀ k b, s[i + k]? = some b → (s.drop i).getD k 0 = b := by
  intro k b hk
  rw [List.getD_eq_getElem?_getD, List.getElem?_drop, hk]; rfl
 have g0 : (s.drop i).getD 0 0 = b0 := g 0 b0 (by simpa using hb0)
 have hd := decR_decodeN hne
 rw [g0, List.length_drop] at hd
 have hx1 : ((s.drop i).getD 1 0).toNat < 256 := UInt8.toNat_lt _
 have hx2 : ((s.drop i).getD 2 0).toNat < 256 := UInt8.toNat_lt _
 have hx3 : ((s.drop i).getD 3 0).toNat < 256 := UInt8.toNat_lt _
 have gex : ∀ k, k < s.length - i → s[i + k]? = some ((s.drop i).getD k 0) := by
  intro k hk
  rw [List.getD_eq_getElem?_getD, List.getElem?_drop, List.getElem?_eq_getElem (by omega)]; rfl
 have bad : ∀ d : Nat × Nat, decS (s.drop i) = d → d = (65533, 1) → (some (0, 0) : Option (Int × Int)) = some (codeI (s.drop i)) := by
  intro d h1 h2
  rw [codeI_of hne h1, h2, if_pos ⟨rfl, rfl⟩]
 have good : ∀ c k : Nat, decS (s.drop i) = (c, k) → k ≠ 1 → (some ((c : Int), (k : Int)) : Option (Int × Int)) = some (codeI (s.drop i)) := by
  intro c k h1 h2
  rw [codeI_of hne h1, if_neg (by rintro ⟨_, h⟩; exact h2 h)]
 generalize hy1 : (s.drop i).getD 1 0 = y1 at *
 generalize hy2 : (s.drop i).getD 2 0 = y2 at *
 generalize hy3 : (s.drop i).getD 3 0 = y3 at *
 have gy1 : 1 < s.length - i → s[i + 1]? = some y1 := fun h => by rw [gex 1 h, hy1]
 have gy2 : 2 < s.length - i → s[i + 2]? = some y2 := fun h => by rw [gex 2 h, hy2]
 have gy3 : 3 < s.length - i → s[i + 3]? = some y3 := fun h => by rw [gex 3 h, hy3]
 simp only [r1_Code_B, e1, e2, cnd_f, e3, bnd_s, e4, e5]
 by_cases c1 : b0.toNat < 128
 ·have d1 : decide ((b0.toNat : Int) < 128) = true := by simp; omega
  simp only [d1, cnd_t]
  have : Go.Lib.decodeN (s.length - i) b0.toNat y1.toNat y2.toNat y3.toNat = (b0.toNat, 1) := by unfold Go.Lib.decodeN; rw [if_pos c1]
  rw [codeI_of hne (hd.trans this), if_neg (by rintro ⟨h, _⟩; simp only at h; omega)]; rfl
 have d1 : decide ((b0.toNat : Int) < 128) = false := by simp; omega
 simp only [d1, cnd_f]
 by_cases c2 : b0.toNat < 224
 ·have dd := dN2 (n := s.length - i) (x2 := y2.toNat) (x3 := y3.toNat) (by omega) c2 hx1
  by_cases c3 : 194 ≤ b0.toNat
  ·have d2 : decide ((b0.toNat : Int) ≥ 194) = true := by simp; omega
   have d3 : decide ((b0.toNat : Int) < 224) = true := by simp; omega
   simp only [d2, d3, cnd_t]
   by_cases c4 : 1 < s.length - i
   ·have d4 : decide ((2 : Int) > ((s.length - i : Nat) : Int)) = false := by simp; omega
    simp only [d4, cnd_f, and31 ⟨b0.toNat, hx0⟩]
    have L := tail_loop (b := r1_Code_l1T s (i : Int)) s i 2 hs (by omega) (fun c k _ => rfl)
    obtain ⟨l1, _⟩ := L (b0.toNat % 32) 1 (by omega)
    obtain ⟨l1a, l1b⟩ := l1 (by omega) y1 (gy1 c4)
    rw [show ((1 : Nat) : Int) = 1 from rfl] at l1a l1b
    by_cases c5 : 128 ≤ y1.toNat ∧ y1.toNat ≤ 191
    ·have l2 := (L (b0.toNat % 32 * 64 + y1.toNat % 64) 2 (by omega)).2 rfl
     rw [l1b c5, l2]
     have q1 : decide (((b0.toNat % 32 * 64 + y1.toNat % 64 : Nat) : Int) < 128) = false := by simp; omega
     have q2 : decide (((b0.toNat % 32 * 64 + y1.toNat % 64 : Nat) : Int) > 1114111) = false := by simp; omega
     have q3 : decide (((b0.toNat % 32 * 64 + y1.toNat % 64 : Nat) : Int) ≥ 55296) = false := by simp; omega
     simp only [bnd_s, elim_inl, q1, q2, q3, cnd_f]
     rw [if_pos ⟨c3, c4, c5⟩] at dd
     exact good _ 2 (hd.trans dd) (by decide)
    ·rw [l1a (by omega)]
     simp only [bnd_s, elim_inr]
     rw [if_neg (by omega)] at dd
     exact bad _ (hd.trans dd) rfl
   ·have d4 : decide ((2 : Int) > ((s.length - i : Nat) : Int)) = true := by simp; omega
    simp only [d4, cnd_t]
    rw [if_neg (by omega)] at dd
    exact bad _ (hd.trans dd) rfl
  ·have d2 : decide ((b0.toNat : Int) ≥ 194) = false := by simp; omega
   have d3 : decide ((b0.toNat : Int) ≥ 224) = false := by simp; omega
   have d4 : decide ((b0.toNat : Int) ≥ 240) = false := by simp; omega
   simp only [d2, d3, d4, cnd_f]
   rw [if_neg (by omega)] at dd
   exact bad _ (hd.trans dd) rfl
 have d2 : decide ((b0.toNat : Int) ≥ 194) = true := by simp; omega
 have d3 : decide ((b0.toNat : Int) < 224) = false := by simp; omega
 have d4 : decide ((b0.toNat : Int) ≥ 224) = true := by simp; omega
 simp only [d2, d3, d4, cnd_t, cnd_f]
 by_cases c3 : b0.toNat < 240
 ·have d5 : decide ((b0.toNat : Int) < 240) = true := by simp; omega
  simp only [d5, cnd_t]
  have dd := dN3 (n := s.length - i) (x3 := y3.toNat) (by omega) c3 hx1 hx2
  by_cases c4 : 2 < s.length - i
  ·have d6 : decide ((3 : Int) > ((s.length - i : Nat) : Int)) = false := by simp; omega
   simp only [d6, cnd_f, and15 ⟨b0.toNat, hx0⟩]
   have L := tail_loop (b := r1_Code_l2T s (i : Int)) s i 3 hs (by omega) (fun c k _ => rfl)
   obtain ⟨l1, _⟩ := L (b0.toNat % 16) 1 (by omega)
   obtain ⟨l1a, l1b⟩ := l1 (by omega) y1 (gy1 (by omega))
   rw [show ((1 : Nat) : Int) = 1 from rfl] at l1a l1b
   by_cases c5 : 128 ≤ y1.toNat ∧ y1.toNat ≤ 191
   ·rw [l1b c5]
    obtain ⟨l2, _⟩ := L (b0.toNat % 16 * 64 + y1.toNat % 64) 2 (by omega)
    obtain ⟨l2a, l2b⟩ := l2 (by omega) y2 (gy2 c4)
    by_cases c6 : 128 ≤ y2.toNat ∧ y2.toNat ≤ 191
    ·rw [l2b c6]
     have l3 := (L ((b0.toNat % 16 * 64 + y1.toNat % 64) * 64 + y2.toNat % 64) 3 (by omega)).2 rfl
     rw [l3]
     have ec : (b0.toNat % 16 * 64 + y1.toNat % 64) * 64 + y2.toNat % 64 = b0.toNat % 16 * 4096 + y1.toNat % 64 * 64 + y2.toNat % 64 := by omega
     rw [ec]
     generalize b0.toNat % 16 * 4096 + y1.toNat % 64 * 64 + y2.toNat % 64 = c at *
     have hcb : c ≤ 65535 := by omega
     simp only [bnd_s, elim_inl]
     by_cases q1 : c < 2048
     ·have r1 : decide ((c : Int) < 2048) = true := by simp; omega
      simp only [r1, cnd_t]
      rw [if_neg (by omega)] at dd
      exact bad _ (hd.trans dd) rfl
     ·have r1 : decide ((c : Int) < 2048) = false := by simp; omega
      have r2 : decide ((c : Int) > 1114111) = false := by simp; omega
      simp only [r1, r2, cnd_f]
      by_cases q2 : 55296 ≤ c
      ·have r3 : decide ((c : Int) ≥ 55296) = true := by simp; omega
       simp only [r3, cnd_t]
       by_cases q3 : c < 57344
       ·have r4 : decide ((c : Int) < 57344) = true := by simp; omega
        simp only [r4, cnd_t]
        rw [if_neg (by omega)] at dd
        exact bad _ (hd.trans dd) rfl
       ·have r4 : decide ((c : Int) < 57344) = false := by simp; omega
        simp only [r4, cnd_f]
        rw [if_pos ⟨⟨by omega, c5⟩, ⟨c4, c6⟩, by omega, by omega⟩] at dd
        exact good _ 3 (hd.trans dd) (by decide)
      ·have r3 : decide ((c : Int) ≥ 55296) = false := by simp; omega
       simp only [r3, cnd_f]
       rw [if_pos ⟨⟨by omega, c5⟩, ⟨c4, c6⟩, by omega, by omega⟩] at dd
       exact good _ 3 (hd.trans dd) (by decide)
    ·rw [l2a (by omega)]
     simp only [bnd_s, elim_inr]
     rw [if_neg (by omega)] at dd
     exact bad _ (hd.trans dd) rfl
   ·rw [l1a (by omega)]
    simp only [bnd_s, elim_inr]
    rw [if_neg (by omega)] at dd
    exact bad _ (hd.trans dd) rfl
  ·have d6 : decide ((3 : Int) > ((s.length - i : Nat) : Int)) = true := by simp; omega
   simp only [d6, cnd_t]
   rw [if_neg (by omega)] at dd
   exact bad _ (hd.trans dd) rfl
 have d5 : decide ((b0.toNat : Int) < 240) = false := by simp; omega
 have d6 : decide ((b0.toNat : Int) ≥ 240) = true := by simp; omega
 simp only [d5, d6, cnd_f, cnd_t]
 have dd := dN4 (n := s.length - i) (by omega) hx0 hx1 hx2 hx3
 by_cases c4 : b0.toNat < 245
 ·have d7 : decide ((b0.toNat : Int) < 245) = true := by simp; omega
  simp only [d7, cnd_t]
  by_cases c5 : 3 < s.length - i
  ·have d8 : decide ((4 : Int) > ((s.length - i : Nat) : Int)) = false := by simp; omega
   simp only [d8, cnd_f, and7 ⟨b0.toNat, hx0⟩]
   have L := tail_loop (b := r1_Code_l3T s (i : Int)) s i 4 hs (by omega) (fun c k _ => rfl)
   obtain ⟨l1, _⟩ := L (b0.toNat % 8) 1 (by omega)
   obtain ⟨l1a, l1b⟩ := l1 (by omega) y1 (gy1 (by omega))
   rw [show ((1 : Nat) : Int) = 1 from rfl] at l1a l1b
   by_cases c6 : 128 ≤ y1.toNat ∧ y1.toNat ≤ 191
   ·rw [l1b c6]
    obtain ⟨l2, _⟩ := L (b0.toNat % 8 * 64 + y1.toNat % 64) 2 (by omega)
    obtain ⟨l2a, l2b⟩ := l2 (by omega) y2 (gy2 (by omega))
    by_cases c7 : 128 ≤ y2.toNat ∧ y2.toNat ≤ 191
    ·rw [l2b c7]
     obtain ⟨l3, _⟩ := L ((b0.toNat % 8 * 64 + y1.toNat % 64) * 64 + y2.toNat % 64) 3 (by omega)
     obtain ⟨l3a, l3b⟩ := l3 (by omega) y3 (gy3 c5)
     by_cases c8 : 128 ≤ y3.toNat ∧ y3.toNat ≤ 191
     ·rw [l3b c8]
      have ec : ((b0.toNat % 8 * 64 + y1.toNat % 64) * 64 + y2.toNat % 64) * 64 + y3.toNat % 64 = b0.toNat % 8 * 262144 + y1.toNat % 64 * 4096 + y2.toNat % 64 * 64 + y3.toNat % 64 := by omega
      have hcb : b0.toNat % 8 * 262144 + y1.toNat % 64 * 4096 + y2.toNat % 64 * 64 + y3.toNat % 64 < 2097152 := by omega
      have h0 : r1_Code_l3T s (i : Int) ((((b0.toNat % 8 * 64 + y1.toNat % 64) * 64 + y2.toNat % 64) * 64 + y3.toNat % 64 : Nat), ((4 : Nat) : Int)) = some (.inr (.inl ((((b0.toNat % 8 * 64 + y1.toNat % 64) * 64 + y2.toNat % 64) * 64 + y3.toNat % 64 : Nat) : Int))) := rfl
      rw [tloop_exit h0, ec]
      generalize b0.toNat % 8 * 262144 + y1.toNat % 64 * 4096 + y2.toNat % 64 * 64 + y3.toNat % 64 = c at *
      simp only [bnd_s, elim_inl]
      by_cases q1 : c < 65536
      ·have r1 : decide ((c : Int) < 65536) = true := by simp; omega
       simp only [r1, cnd_t]
       rw [if_neg (by omega)] at dd
       exact bad _ (hd.trans dd) rfl
      ·have r1 : decide ((c : Int) < 65536) = false := by simp; omega
       simp only [r1, cnd_f]
       by_cases q2 : c ≤ 1114111
       ·have r2 : decide ((c : Int) > 1114111) = false := by simp; omega
        have r3 : decide ((c : Int) ≥ 55296) = true := by simp; omega
        have r4 : decide ((c : Int) < 57344) = false := by simp; omega
        simp only [r2, r3, r4, cnd_t, cnd_f]
        rw [if_pos ⟨c4, ⟨by omega, c6⟩, ⟨by omega, c7⟩, ⟨c5, c8⟩, by omega, q2⟩] at dd
        exact good _ 4 (hd.trans dd) (by decide)
       ·have r2 : decide ((c : Int) > 1114111) = true := by simp; omega
        simp only [r2, cnd_t]
        rw [if_neg (by omega)] at dd
        exact bad _ (hd.trans dd) rfl
     ·rw [l3a (by omega)]
      simp only [bnd_s, elim_inr]
      rw [if_neg (by omega)] at dd
      exact bad _ (hd.trans dd) rfl
    ·rw [l2a (by omega)]
     simp only [bnd_s, elim_inr]
     rw [if_neg (by omega)] at dd
     exact bad _ (hd.trans dd) rfl
   ·rw [l1a (by omega)]
    simp only [bnd_s, elim_inr]
    rw [if_neg (by omega)] at dd
    exact bad _ (hd.trans dd) rfl
  ·have d8 : decide ((4 : Int) > ((s.length - i : Nat) : Int)) = true := by simp; omega
   simp only [d8, cnd_t]
   rw [if_neg (by omega)] at dd
   exact bad _ (hd.trans dd) rfl
 ·have d7 : decide ((b0.toNat : Int) < 245) = false := by simp; omega
  simp only [d7, cnd_f]
  rw [if_neg (by omega)] at dd
  exact bad _ (hd.trans dd) rfl
def intN (l : List Nat) : List Int := l.map fun n : Nat => (n : Int)
theorem codeI_none {s : Str} (h : decR s = none) : codeI s = (0, 0) := by unfold codeI; rw [h]
theorem codeI_some {s : Str} {c k : Nat} (h : decR s = some (c, k)) : codeI s = ((c : Int), (k : Int)) := by unfold codeI; rw [h]
theorem okC_le {c : Nat} (h : okC c) : c ≤ 1114111 := by unfold okC at h; omega
theorem cp_loop {β ρ : Type} {b : (β × Int) → Option ((β × Int) ⊕ ρ)} (s : Str) (hs : s.length ≤ 1073741824) (g : β → Nat → β) (F : Option (List Nat) → β → ρ) (I : Nat → β → Prop)
  (hend : ∀ a, I s.length a → b (a, (s.length : Int)) = some (.inr (F (some []) a)))
  (hbad : ∀ (i : Nat) a, i < s.length → I i a → decR (s.drop i) = none → b (a, (i : Int)) = some (.inr (F none a)))
  (hcons : ∀ (i : Nat) a (c k : Nat), i < s.length → I i a → decR (s.drop i) = some (c, k) → i + k ≤ s.length → okC c → 1 ≤ k → k ≤ 4 → (b (a, (i : Int)) = some (.inl (g a c, ((i + k : Nat) : Int))) ∧ I (i + k) (g a c) ∧ ∀ r : Option (List Nat), F (r.map (c :: ·)) a = F r (g a c)) ∨ ∀ r : Option (List Nat), b (a, (i : Int)) = some (.inr (F (r.map (c :: ·)) a))) :
  ∀ (i : Nat) a, i ≤ s.length → I i a → tloop b (a, (i : Int)) = some (F (cps (s.drop i)) a) := by
 have key : ∀ (n i : Nat) a, s.length - i ≤ n → i ≤ s.length → I i a → tloop b (a, (i : Int)) = some (F (cps (s.drop i)) a) := by
  intro n
  induction n with
  | zero =>
   intro i a h1 h2 hI
   have : i = s.length := by omega
   subst this
   rw [tloop_exit (hend a hI), List.drop_length, cps_nil]
  | succ n ih =>
   intro i a h1 h2 hI
   by_cases hi : i = s.length
   ·subst hi
    rw [tloop_exit (hend a hI), List.drop_length, cps_nil]
   ·have hlt : i < s.length := by omega
    cases hd : decR (s.drop i) with
    | none => rw [tloop_exit (hbad i a hlt hI hd), cps_none (drop_ne hlt) hd]
    | some x =>
     obtain ⟨c, k⟩ := x
     obtain ⟨h3, h4, h5, h6, h7, h8⟩ := decR_some hd
     rw [List.length_drop] at h8
     rw [cps_some hd, List.drop_drop]
     rcases hcons i a c k hlt hI hd (by omega) h3 h6 h7 with ⟨hb, hI', hF⟩ | hb
     ·rw [tloop_next hb, ih (i + k) _ (by omega) (by omega) hI', hF]
     ·exact tloop_exit (hb _)
 exact fun i a h hI => key _ i a (Nat.le_refl _) h hI
theorem wk {i k : Nat} (h : i + k ≤ 1073741824) : IntKind.wrap .i64 ((i : Int) + (k : Int)) = ((i + k : Nat) : Int) := by rw [wi (by omega)]; omega
theorem lt_true {i n : Nat} (h : i < n) : decide ((i : Int) < (n : Int)) = true := by simp; omega
def codesF : Option (List Nat) → List Int → (List Int) ⊕ Unit
 | some l, a => .inl (a ++ intN l)
 | none, _ => .inr ()
theorem r1_Codes_ok (s : Str) (hs : s.length ≤ 1073741824) : r1_Codes s = some (match cps s with | some l => (intN l, true) | none => ([], false)) := by
 apply r1_Codes_run
 have h := cp_loop (b := r1_Codes_l1T s) s hs (fun a c => a ++ [(c : Int)]) codesF (fun i a => a.length ≤ i)
  (fun a _ => by simp only [r1_Codes_l1T, end_lt, cnd_f, codesF]; simp [intN])
  (fun i a hi _ hd => by simp only [r1_Codes_l1T, lt_true hi, cnd_t, r1_Code_nat s i hi hs, codeI_none hd, bnd_s]; rfl)
  (fun i a c k hi hI hd hk hc h1 h4 => by
   left
   have e : ((k : Int) == 0) = false := by simp; omega
   refine ⟨?_, by simp; omega, fun r => by cases r <;> simp [codesF, intN]⟩
   simp only [r1_Codes_l1T, lt_true hi, cnd_t, r1_Code_nat s i hi hs, codeI_some hd, bnd_s, e, cnd_f, tapp_ok (show a.length + [(c : Int)].length ≤ lim by simp [lim_val]; omega), wk (show i + k ≤ 1073741824 by omega)]) 0 [] (by omega) (by simp)
 rw [List.drop_zero] at h
 simp only [r1_Codes_B]
 rw [show tloop (r1_Codes_l1T s) ([], 0) = _ from h]
 cases cps s <;> simp [codesF]
theorem r1_Good_ok (s : Str) (hs : s.length ≤ 1073741824) : r1_Good s = some (cps s).isSome := by
 apply r1_Good_run
 simp only [r1_Good_B, r1_Codes_ok s hs, bnd_s]
 cases cps s <;> rfl
theorem ls_Good_ok (s : Str) (hs : s.length ≤ 1073741824) : ls_Good s = some (cps s).isSome := by
 apply ls_Good_run
 have : uf_ValidString s = some (validS s) := uf_ValidString_run (by unfold tValid; rw [if_pos (by omega)])
 simp only [ls_Good_B, this, bnd_s, validS_cps]
theorem u16_len (c : Nat) : (u16 c).length ≤ 2 := by unfold u16; split <;> simp
theorem u16_big {c : Nat} (h : okC c) (h1 : 65536 ≤ c) : [(IntKind.wrap .i64 (55296 + (IntKind.wrap .i64 (Int.tdiv (IntKind.wrap .i64 ((c : Int) - 65536)) 1024)))), (IntKind.wrap .i64 (56320 + (Int.tmod (IntKind.wrap .i64 ((c : Int) - 65536)) 1024)))] = u16 c := by
 have hc := okC_le h
 have e1 : IntKind.wrap .i64 ((c : Int) - 65536) = ((c - 65536 : Nat) : Int) := by rw [wi (by omega)]; omega
 have e2 : Int.tdiv ((c - 65536 : Nat) : Int) 1024 = (((c - 65536) / 1024 : Nat) : Int) := by rw [Int.tdiv_eq_ediv_of_nonneg (by omega)]; omega
 have e3 : Int.tmod ((c - 65536 : Nat) : Int) 1024 = (((c - 65536) % 1024 : Nat) : Int) := by rw [Int.tmod_eq_emod_of_nonneg (by omega)]; omega
 rw [e1, e2, e3, wn (by omega), wi (by omega), wi (by omega)]
 unfold u16
 rw [if_neg (by omega)]
 congr 1
def unitsF : Option (List Nat) → List Int → (List Int) ⊕ Unit
 | some l, a => .inl (a ++ u16L l)
 | none, _ => .inr ()
theorem ls_Units_ok (s : Str) (hs : s.length ≤ 1073741824) : ls_Units s = some (match cps s with | some l => (u16L l, true) | none => ([], false)) := by
 apply ls_Units_run
 have h := cp_loop (b := ls_Units_l1T s) s hs (fun a c => a ++ u16 c) unitsF (fun i a => a.length ≤ 2 * i)
  (fun a _ => by simp only [ls_Units_l1T, end_lt, cnd_f, unitsF]; simp [u16L])
  (fun i a hi _ hd => by simp only [ls_Units_l1T, lt_true hi, cnd_t, ls_Code_nat s i hi hs, codeI_none hd, bnd_s]; rfl)
  (fun i a c k hi hI hd hk hc h1 h4 => by
   left
   have e : ((k : Int) == 0) = false := by simp; omega
   have ul := u16_len c
   have ta : tapp a (u16 c) = some (a ++ u16 c) := tapp_ok (by rw [lim_val]; omega)
   refine ⟨?_, by rw [List.length_append]; omega, fun r => by cases r <;> simp [unitsF, u16L]⟩
   simp only [ls_Units_l1T, lt_true hi, cnd_t, ls_Code_nat s i hi hs, codeI_some hd, bnd_s, e, cnd_f, wk (show i + k ≤ 1073741824 by omega)]
   by_cases hb : 65536 ≤ c
   ·have d : decide ((c : Int) ≥ 65536) = true := by simp; omega
    rw [d, u16_big hc hb, ta]; rfl
   ·have d : decide ((c : Int) ≥ 65536) = false := by simp; omega
    have : [(c : Int)] = u16 c := by unfold u16; rw [if_pos (by omega)]
    rw [d, this, ta]; rfl) 0 [] (by omega) (by simp)
 rw [List.drop_zero] at h
 simp only [ls_Units_B]
 rw [show tloop (ls_Units_l1T s) ([], 0) = _ from h]
 cases cps s <;> simp [unitsF]
def signN (c : Nat) : Bool := c == 9 || c == 10 || c == 13 || (decide (32 ≤ c) && decide (c ≤ 65535))
def srcB (s : Str) : Bool := match cps s with
 | some l => l.all signN
 | none => false
def srcF : Option (List Nat) → Unit → Unit ⊕ Unit
 | some l, _ => bif l.all signN then .inl () else .inr ()
 | none, _ => .inr ()
def joinF : Option (List Nat) → List Int → (List Int) ⊕ Unit
 | some l, a => .inl (a ++ intsT (encL8 l))
 | none, _ => .inr ()
theorem intsT_append (a b : Str) : intsT (a ++ b) = intsT a ++ intsT b := by simp [intsT]
theorem bytesT_intsT (s : Str) : bytesT (intsT s) = s := by
 unfold bytesT intsT
 rw [List.map_map]
 conv => rhs; rw [← List.map_id s]
 apply List.map_congr_left
 intro b _
 simp
theorem and63N {c : Nat} (h : c < 1073741824) : bits .and .i64 (c : Int) 63 = ((c % 64 : Nat) : Int) := by
 have h0 : bits .and .i64 (c : Int) 63 = IntKind.wrap .i64 ((BitVec.ofInt 64 (c : Int) &&& BitVec.ofInt 64 ((63 : Nat) : Int)).toNat : Int) := rfl
 have h1 : (BitVec.ofInt 64 (c : Int) &&& BitVec.ofInt 64 ((63 : Nat) : Int)).toNat = c % 64 := by
  rw [BitVec.ofInt_natCast, BitVec.ofInt_natCast, BitVec.toNat_and, BitVec.toNat_ofNat, BitVec.toNat_ofNat, Nat.mod_eq_of_lt (by omega), Nat.mod_eq_of_lt (by omega)]
  exact Nat.and_two_pow_sub_one_eq_mod c 6
 rw [h0, h1]
 exact wn (by omega)
theorem plead2 : ∀ x : Fin 32, bits .or .i64 192 (x.val : Int) = ((192 + x.val : Nat) : Int) := by decide +kernel
theorem plead3 : ∀ x : Fin 16, bits .or .i64 224 (x.val : Int) = ((224 + x.val : Nat) : Int) := by decide +kernel
theorem plead4 : ∀ x : Fin 8, bits .or .i64 240 (x.val : Int) = ((240 + x.val : Nat) : Int) := by decide +kernel
theorem pcont : ∀ x : Fin 64, bits .or .i64 128 (x.val : Int) = ((128 + x.val : Nat) : Int) := by decide +kernel
theorem contP {c : Nat} (h : c < 1073741824) : IntKind.wrap .u8 (bits .or .i64 128 (bits .and .i64 (c : Int) 63)) = ((128 + c % 64 : Nat) : Int) := by
 rw [and63N h, pcont ⟨c % 64, by omega⟩, IntKind.wrap_u8]
 simp only
 omega
theorem fdivP (c n : Nat) (k : Nat) (h : n = 2 ^ k) (hk : k ≤ 32) : Int.fdiv (c : Int) (2 ^ min (Int.toNat (k : Int)) 64) = ((c / n : Nat) : Int) := by
 have : min (Int.toNat (k : Int)) 64 = k := by omega
 rw [this, Int.fdiv_eq_ediv_of_nonneg _ (Int.le_of_lt (Int.pow_pos (by decide)))]
 subst h
 simp
theorem fp6 (c : Nat) : Int.fdiv (c : Int) (2 ^ min (Int.toNat 6) 64) = ((c / 64 : Nat) : Int) := fdivP c 64 6 rfl (by decide)
theorem fp12 (c : Nat) : Int.fdiv (c : Int) (2 ^ min (Int.toNat 12) 64) = ((c / 4096 : Nat) : Int) := fdivP c 4096 12 rfl (by decide)
theorem fp18 (c : Nat) : Int.fdiv (c : Int) (2 ^ min (Int.toNat 18) 64) = ((c / 262144 : Nat) : Int) := fdivP c 262144 18 rfl (by decide)
theorem bytesT_map (l : List Nat) : bytesT (l.map fun n : Nat => (n : Int)) = l.map UInt8.ofNat := by
 unfold bytesT; rw [List.map_map]; apply List.map_congr_left; intro x _; simp
theorem bytesT_enc (c : Nat) : bytesT ((encN c).map fun n : Nat => (n : Int)) = encC c := bytesT_map _
theorem Put_ok (c : Nat) (hc : okC c) : r1_Put (c : Int) = some (encC c) := by
 have hle := okC_le hc
 apply r1_Put_run
 simp only [r1_Put_B, fp6, fp12, fp18]
 rw [← bytesT_enc]
 by_cases c1 : c < 128
 ·have d : decide ((c : Int) < 128) = true := by simp; omega
  have e : IntKind.wrap .u8 (c : Int) = (c : Int) := by rw [IntKind.wrap_u8]; omega
  simp only [d, cnd_t, e, bnd_s]
  unfold encN; rw [if_pos c1]; rfl
 have d1 : decide ((c : Int) < 128) = false := by simp; omega
 have w8 : ∀ n : Nat, n < 256 → IntKind.wrap .u8 (n : Int) = (n : Int) := fun n hn => by rw [IntKind.wrap_u8]; omega
 by_cases c2 : c < 2048
 ·have d : decide ((c : Int) < 2048) = true := by simp; omega
  have e := plead2 ⟨c / 64, by omega⟩
  simp only at e
  simp only [d1, d, cnd_t, cnd_f, e, contP (show c < 1073741824 by omega), w8 (192 + c / 64) (by omega), bnd_s]
  unfold encN; rw [if_neg c1, if_pos c2]; rfl
 have d2 : decide ((c : Int) < 2048) = false := by simp; omega
 by_cases c3 : c < 65536
 ·have d : decide ((c : Int) < 65536) = true := by simp; omega
  have e := plead3 ⟨c / 4096, by omega⟩
  simp only at e
  simp only [d1, d2, d, cnd_t, cnd_f, e, contP (show c < 1073741824 by omega), contP (show c / 64 < 1073741824 by omega), w8 (224 + c / 4096) (by omega), bnd_s]
  unfold encN; rw [if_neg c1, if_neg c2, if_pos c3]; rfl
 have d3 : decide ((c : Int) < 65536) = false := by simp; omega
 have e := plead4 ⟨c / 262144, by omega⟩
 simp only at e
 simp only [d1, d2, d3, cnd_f, e, contP (show c < 1073741824 by omega), contP (show c / 64 < 1073741824 by omega), contP (show c / 4096 < 1073741824 by omega), w8 (240 + c / 262144) (by omega), bnd_s]
 unfold encN; rw [if_neg c1, if_neg c2, if_neg c3]; rfl
def joinG : Option (List Nat) → Str → Str ⊕ Unit
 | some l, a => .inl (a ++ encL8 l)
 | none, _ => .inr ()
def lnsA : Str → Str → List Str
 | a, [] => [a]
 | a, c :: r =>
  if c = 10 then a :: lnsA [] r
  else if c = 13 then (match r with
   | d :: r' => if d = 10 then a :: lnsA [] r' else a :: lnsA [] (d :: r')
   | [] => a :: lnsA [] [])
  else lnsA (a ++ [c]) r
termination_by _ s => s.length
def lns (s : Str) : List Str := lnsA [] s
def wt (l : List Str) : Nat := sumL (fun x => x.length + 1) l
def noEol (s : Str) : Prop := ∀ c ∈ s, c ≠ 10 ∧ c ≠ 13
def bl (c : UInt8) : Bool := c == 9 || c == 32
def bare (s : Str) : Bool := s.all bl
def leadN (s : Str) : Nat := (s.takeWhile bl).length
def leastI (m : Int) (s : Str) : Int := if bare s then m else if m < 0 then (leadN s : Int) else if (leadN s : Int) < m then (leadN s : Int) else m
def indent (l : List Str) : Int := (l.drop 1).foldl leastI (-1)
def shiftL (n : Nat) : List Str → List Str
 | [] => []
 | x :: r => x :: r.map (·.drop n)
def trimF (l : List Str) : List Str := l.dropWhile bare
def trimB (l : List Str) : List Str := (l.reverse.dropWhile bare).reverse
def says (l : List Str) : List Str := trimB (trimF (shiftL (indent l).toNat l))
def value (raw : Str) : Str := joinS (says (lns raw)) [10]
theorem joinS_nil (sep : Str) : joinS [] sep = [] := by simp [joinS, List.intercalate]
theorem joinS_one (x sep : Str) : joinS [x] sep = x := by simp [joinS, List.intercalate]
theorem joinS_cons2 (x y : Str) (l : List Str) (sep : Str) : joinS (x :: y :: l) sep = x ++ (sep ++ joinS (y :: l) sep) := by
 simp [joinS, List.intercalate, List.intersperse]
theorem joinS_snoc (sep x : Str) : ∀ (l : List Str), l ≠ [] → joinS (l ++ [x]) sep = joinS l sep ++ (sep ++ x)
 | [], h => absurd rfl h
 | [y], _ => by rw [List.singleton_append, joinS_cons2, joinS_one, joinS_one]
 | y :: z :: l, _ => by
  have := joinS_snoc sep x (z :: l) (by simp)
  rw [List.cons_append, List.cons_append, joinS_cons2, ← List.cons_append, this, joinS_cons2]
  simp
theorem ltT {i n : Nat} (h : i < n) : decide ((i : Int) < (n : Int)) = true := by simp; omega
theorem ltF {i n : Nat} (h : n ≤ i) : decide ((i : Int) < (n : Int)) = false := by simp; omega
theorem u8eq {c : UInt8} {n : Nat} (hn : n < 256) : ((c.toNat : Int) == (n : Int)) = (c == UInt8.ofNat n) := by
 rw [Bool.eq_iff_iff]
 simp only [beq_iff_eq]
 constructor
 ·intro h
  have : c.toNat = n := by omega
  rw [← this]; simp
 ·rintro rfl
  simp [UInt8.toNat_ofNat, Nat.mod_eq_of_lt hn]
theorem drop_cons {α : Type} {l : List α} {i : Nat} {x : α} (h : l[i]? = some x) : l.drop i = x :: l.drop (i + 1) := by
 obtain ⟨hlt, hx⟩ := List.getElem?_eq_some_iff.1 h
 rw [List.drop_eq_getElem_cons hlt, hx]
def cut {α : Type} (s : List α) (f i : Nat) : List α := (s.take i).drop f
def blanksR (s : Str) (n : Nat) : Str → Unit ⊕ Int := fun r => if bare r then .inl () else .inr (((n - r.length + leadN r : Nat)) : Int)
def mid (n i : Nat) (l : List Str) : List Str := (shiftL n l).take i ++ l.drop i
def Ok (l : List Str) : Prop := l.length ≤ 1073741824 ∧ ∀ x ∈ l, x.length ≤ 1073741824
def isD (c : UInt8) : Bool := digit c.toNat
def isL (c : UInt8) : Bool := letter c.toNat
def digs (s : Str) : Nat := (s.takeWhile isD).length
def sgn (s : Str) : Nat := if s.head? = some 45 then 1 else 0
def wholeN (s : Str) : Nat :=
 if digs (s.drop (sgn s)) = 0 then 0 else if s[sgn s]? = some 48 then sgn s + 1 else sgn s + digs (s.drop (sgn s))
def expS (s : Str) : Nat := if s[1]? = some 43 ∨ s[1]? = some 45 then 2 else 1
def powN (s : Str) : Nat :=
 if s[0]? = some 101 ∨ s[0]? = some 69 then (if digs (s.drop (expS s)) = 0 then 0 else expS s + digs (s.drop (expS s))) else 0
def pointN (s : Str) (n : Nat) : Nat × Int :=
 if s[n]? = some 46 ∧ 0 < digs (s.drop (n + 1)) then (n + 1 + digs (s.drop (n + 1)), 4) else (n, 3)
def expN (s : Str) (p : Nat × Int) : Nat × Int := if 0 < powN (s.drop p.1) then (p.1 + powN (s.drop p.1), 4) else p
def numN (s : Str) : Nat × Int := if wholeN s = 0 then (0, 0) else expN s (pointN s (wholeN s))
def numI (s : Str) : Int := if (numN s).1 = s.length then (numN s).2 else 0
def wordN (s : Str) : Nat := (s.takeWhile inName).length
def hexV (c : UInt8) : Option Nat :=
 if 48 ≤ c.toNat ∧ c.toNat ≤ 57 then some (c.toNat - 48) else if 97 ≤ c.toNat ∧ c.toNat ≤ 102 then some (c.toNat - 87) else if 65 ≤ c.toNat ∧ c.toNat ≤ 70 then some (c.toNat - 55) else none
def hexF : Nat → Str → Nat → Option Nat
 | 0, _, v => some v
 | _ + 1, [], _ => none
 | n + 1, c :: r, v => match hexV c with
  | none => none
  | some d => hexF n r (16 * v + d)
def unit4 (s : Str) : Option Nat := hexF 4 s 0
def escL : Str := [34, 92, 47, 98, 102, 110, 114, 116]
def escR : Str := [34, 92, 47, 8, 12, 10, 13, 9]
def escV (c : UInt8) : Option UInt8 := if idxB escL c < 0 then none else escR[(idxB escL c).toNat]?
def quo (s : Str) (out : Str) (us : List Int) : Option (Str × Str) :=
 match s with
 | [] => none
 | c :: r =>
  if c = 92 ∧ r.head? = some 117 then
   match unit4 (r.drop 1) with
   | none => none
   | some v => quo (r.drop 5) out (us ++ [(v : Int)])
  else match joinU us with
   | none => none
   | some l =>
    if c = 34 then some (out ++ encL8 l, r)
    else if c = 10 ∨ c = 13 then none
    else if c = 92 then
     match r with
     | [] => none
     | d :: r' => match escV d with
      | none => none
      | some e => quo r' (out ++ encL8 l ++ [e]) []
    else quo r (out ++ encL8 l ++ [c]) []
termination_by s.length
decreasing_by all_goals (simp only [List.length_cons, List.length_drop]; omega)
def blk (s : Str) (raw : Str) : Option (Str × Str) :=
 match s with
 | [] => none
 | c :: r =>
  if [34, 34, 34].isPrefixOf (c :: r) then some (raw, r.drop 2)
  else if [92, 34, 34, 34].isPrefixOf (c :: r) then blk (r.drop 3) (raw ++ [34, 34, 34])
  else blk r (raw ++ [c])
termination_by s.length
decreasing_by all_goals (simp only [List.length_cons, List.length_drop]; omega)
def notEol (c : UInt8) : Bool := c != 10 && c != 13
def isGap (c : UInt8) : Bool := c == 9 || c == 10 || c == 13 || c == 32 || c == 44
def bom : Str := [239, 187, 191]
def gapN (s : Str) : Nat :=
 match s with
 | [] => 0
 | c :: r => if isGap c then 1 else if bom.isPrefixOf (c :: r) then 3 else if c = 35 then ((c :: r).takeWhile notEol).length else 0
def marks : Str := [33, 36, 38, 40, 41, 58, 61, 64, 91, 93, 123, 124, 125]
def isMark (c : UInt8) : Bool := decide (0 ≤ idxB marks c)
def ends (s : Str) (n : Nat) : Bool := match s[n]? with
 | none => true
 | some c => !(isL c || isD c || c == 46)
def oneT (s : Str) : Option (GToken × Nat) :=
 match s with
 | [] => none
 | c :: r =>
  if [34, 34, 34].isPrefixOf (c :: r) then (blk (r.drop 2) []).map fun p => (GToken.mk 5 (value p.1), (c :: r).length - p.2.length)
  else if c = 34 then (quo r [] []).map fun p => (GToken.mk 5 p.1, (c :: r).length - p.2.length)
  else if [46, 46, 46].isPrefixOf (c :: r) then some (GToken.mk 1 [46, 46, 46], 3)
  else if isMark c then some (GToken.mk 1 [c], 1)
  else if isL c then some (GToken.mk 2 ((c :: r).take (wordN (c :: r))), wordN (c :: r))
  else if (numN (c :: r)).1 = 0 then none
  else if ends (c :: r) (numN (c :: r)).1 then some (GToken.mk (numN (c :: r)).2 ((c :: r).take (numN (c :: r)).1), (numN (c :: r)).1)
  else none
def lexF : Nat → Str → Option (List GToken)
 | 0, _ => none
 | n + 1, s =>
  if s = [] then some []
  else if 0 < gapN s then lexF n (s.drop (gapN s))
  else match oneT s with
   | none => none
   | some (t, k) => (lexF n (s.drop k)).map (t :: ·)
def lex (s : Str) : Option (List GToken) := lexF (s.length + 1) s
theorem tw_le {α : Type} (p : α → Bool) (s : List α) : (s.takeWhile p).length ≤ s.length := (List.takeWhile_sublist p).length_le
theorem digs_le (s : Str) : digs s ≤ s.length := tw_le _ _
theorem sgn_le (s : Str) : sgn s ≤ s.length := by
 unfold sgn; split
 ·rename_i h; cases s with
  | nil => simp at h
  | cons _ _ => simp
 ·omega
theorem wholeN_le (s : Str) : wholeN s ≤ s.length := by
 have h1 := digs_le (s.drop (sgn s))
 rw [List.length_drop] at h1
 unfold wholeN
 repeat' split
 all_goals omega
theorem getElem?_lt {α : Type} {l : List α} {i : Nat} {x : α} (h : l[i]? = some x) : i < l.length := (List.getElem?_eq_some_iff.1 h).1
theorem expS_le {s : Str} (h : s[0]? = some 101 ∨ s[0]? = some 69) : expS s ≤ s.length := by
 unfold expS
 split
 ·rename_i h2
  rcases h2 with h2 | h2 <;> (have := getElem?_lt h2; omega)
 ·rcases h with h | h <;> (have := getElem?_lt h; omega)
theorem powN_le (s : Str) : powN s ≤ s.length := by
 unfold powN
 split
 ·rename_i h
  have h1 := digs_le (s.drop (expS s))
  rw [List.length_drop] at h1
  have := expS_le h
  split <;> omega
 ·omega
theorem u43 (c : UInt8) : ((c.toNat : Int) == 43) = (c == 43) := u8eq (n := 43) (by decide)
theorem u45 (c : UInt8) : ((c.toNat : Int) == 45) = (c == 45) := u8eq (n := 45) (by decide)
theorem u46 (c : UInt8) : ((c.toNat : Int) == 46) = (c == 46) := u8eq (n := 46) (by decide)
theorem u48 (c : UInt8) : ((c.toNat : Int) == 48) = (c == 48) := u8eq (n := 48) (by decide)
theorem u69 (c : UInt8) : ((c.toNat : Int) == 69) = (c == 69) := u8eq (n := 69) (by decide)
theorem u101 (c : UInt8) : ((c.toNat : Int) == 101) = (c == 101) := u8eq (n := 101) (by decide)
theorem pre_take (p s : Str) (h : p.length ≤ s.length) : p.isPrefixOf s = (s.take p.length == p) := by
 rw [Bool.eq_iff_iff, List.isPrefixOf_iff_prefix, List.prefix_iff_eq_take, beq_iff_eq]
 exact eq_comm
theorem pre_long (p s : Str) (h : s.length < p.length) : p.isPrefixOf s = false := by
 rw [Bool.eq_false_iff]
 intro e
 have := (List.isPrefixOf_iff_prefix.1 e).length_le
 omega
theorem lHasPrefix_ok (s p : Str) : stringslite_HasPrefix s p = some (p.isPrefixOf s) := by
 apply stringslite_HasPrefix_run
 unfold stringslite_HasPrefix_B
 by_cases h : p.length ≤ s.length
 ·rw [show decide ((List.length s : Int) ≥ (List.length p : Int)) = true by simp; exact h, tslc_ok (by omega), pre_take p s h]
  simp [cnd, bnd]
 ·rw [show decide ((List.length s : Int) ≥ (List.length p : Int)) = false by simp; omega, pre_long p s (by omega)]
  rfl
theorem HasPrefix_ok (s p : Str) : st_HasPrefix s p = some (p.isPrefixOf s) := by
 apply st_HasPrefix_run
 unfold st_HasPrefix_B
 rw [lHasPrefix_ok]; rfl
theorem pre1 (c : UInt8) (s : Str) : [c].isPrefixOf s = (s.head? == some c) := by
 cases s with
 | nil => rfl
 | cons d r =>
  simp only [List.isPrefixOf, List.head?_cons, Bool.and_true]
  rw [Bool.eq_iff_iff, beq_iff_eq, beq_iff_eq, Option.some.injEq]; exact eq_comm
theorem tw_loop {b : Int → Option (Int ⊕ Int)} (s : Str) (p : UInt8 → Bool) (o : Nat)
  (hend : ∀ n : Nat, o + n = s.length → b (n : Int) = some (.inr (n : Int)))
  (hstep : ∀ (n : Nat) x, s[o + n]? = some x → b (n : Int) = some (if p x then .inl ((n + 1 : Nat) : Int) else .inr (n : Int))) :
  ∀ (m n : Nat), s.length - (o + n) ≤ m → o + n ≤ s.length → tloop b (n : Int) = some (((n + ((s.drop (o + n)).takeWhile p).length : Nat)) : Int) := by
 intro m
 induction m with
 | zero =>
  intro n h1 h2
  rw [tloop_exit (hend n (by omega)), show o + n = s.length by omega, List.drop_length]; simp
 | succ m ih =>
  intro n h1 h2
  by_cases he : o + n = s.length
  ·rw [tloop_exit (hend n he), he, List.drop_length]; simp
  ·have hg : s[o + n]? = some (s[o + n]'(by omega)) := List.getElem?_eq_getElem (by omega)
   rw [drop_cons hg, List.takeWhile_cons]
   have hb := hstep n _ hg
   cases hp : p (s[o + n]'(by omega)) with
   | true =>
    rw [hp, if_pos rfl] at hb
    rw [tloop_next hb, ih (n + 1) (by omega) (by omega)]
    simp only [if_true, List.length_cons, Nat.add_assoc]
    congr 2
    omega
   | false =>
    rw [hp] at hb
    rw [tloop_exit hb]; simp
theorem digits_ok (s : Str) (hs : s.length ≤ 1073741824) : to_digits s = some ((digs s : Nat) : Int) := by
 apply to_digits_run
 unfold to_digits_B
 have := tw_loop (b := to_digits_l1T s) s isD 0 (fun n hn => by
   simp only [to_digits_l1T]
   rw [show decide ((n : Int) < (List.length s : Int)) = false from ltF (by omega)]; rfl) (fun n x hx => by
   rw [Nat.zero_add] at hx
   have hlt := getElem?_lt hx
   simp only [to_digits_l1T]
   rw [show decide ((n : Int) < (List.length s : Int)) = true from ltT hlt, nthI_nat, hx]
   simp only [cnd, bnd, ls_Digit_ok]
   rw [wadd (by omega)]
   show cnd (isD x) _ _ = _
   cases isD x <;> rfl) (s.length) 0 (by omega) (by omega)
 rw [show ((0 : Nat) : Int) = 0 from rfl] at this
 rw [this]
 simp [digs, bnd]
theorem run_ok (s : Str) (i : Nat) (hs : s.length ≤ 1073741824) (hi : i ≤ s.length) : r1_run s (i : Int) = some ((digs (s.drop i) : Nat) : Int) := by
 apply r1_run_run
 unfold r1_run_B
 have := tw_loop (b := r1_run_l1T s (i : Int)) s isD i (fun n hn => by
   simp only [r1_run_l1T]
   rw [wi (by omega), show decide ((i : Int) + (n : Int) < (List.length s : Int)) = false by simp; omega]; rfl) (fun n x hx => by
   have hlt := getElem?_lt hx
   simp only [r1_run_l1T]
   rw [wi (by omega), show decide ((i : Int) + (n : Int) < (List.length s : Int)) = true by simp; omega, show (i : Int) + (n : Int) = ((i + n : Nat) : Int) by omega, nthI_nat, hx]
   simp only [cnd, bnd, r1_digit_ok]
   rw [wadd (by omega)]
   show cnd (isD x) _ _ = _
   cases isD x <;> rfl) (s.length) 0 (by omega) (by omega)
 rw [show ((0 : Nat) : Int) = 0 from rfl] at this
 rw [this]
 simp [digs, bnd]
theorem tslc_from (s : Str) (k : Nat) (h : k ≤ s.length) : tslc s (k : Int) (List.length s : Int) = some (s.drop k) := tslc_dropI s k h
theorem nz {n : Nat} : ((n : Int) == 0) = (n == 0) := by
 rw [Bool.eq_iff_iff, beq_iff_eq, beq_iff_eq]; omega
theorem digs_lt {s : Str} (h : digs s ≠ 0) : ∃ c r, s = c :: r ∧ isD c = true := by
 cases s with
 | nil => exact absurd rfl h
 | cons c r =>
  refine ⟨c, r, rfl, ?_⟩
  unfold digs at h
  rw [List.takeWhile_cons] at h
  cases hd : isD c with
  | true => rfl
  | false => rw [hd] at h; simp at h
theorem whole_ok (s : Str) (hs : s.length ≤ 1073741824) : to_whole s = some ((wholeN s : Nat) : Int) := by
 apply to_whole_run
 unfold to_whole_B
 rw [HasPrefix_ok, pre1]
 simp only [bnd]
 have hsl := sgn_le s
 have key : ∀ (k : Nat), k = sgn s → k ≤ 1 → bnd (tslc s (k : Int) (List.length s : Int)) (fun y4 => bnd (to_digits y4) fun y6 => cnd (y6 == 0) (some (0 : Int)) (bnd (nthI s (k : Int)) fun y8 => cnd ((y8.toNat : Int) == 48) (some ((k + 1 : Nat) : Int)) (some (IntKind.wrap .i64 ((k : Int) + y6))))) = some ((wholeN s : Nat) : Int) := by
  intro k hk h1
  rw [tslc_from s k (by omega)]
  simp only [bnd]
  rw [digits_ok _ (by rw [List.length_drop]; omega)]
  simp only [bnd, nz, wholeN, ← hk]
  by_cases h0 : digs (s.drop k) = 0
  ·rw [h0]; rfl
  ·rw [beq_eq_false_iff_ne.2 h0, if_neg h0]
   simp only [cnd]
   obtain ⟨c, r, hc, _⟩ := digs_lt h0
   have hg : s[k]? = some c := by
    have : (s.drop k)[0]? = some c := by rw [hc]; rfl
    rw [List.getElem?_drop] at this; exact this
   rw [nthI_nat, hg]
   simp only [bnd, u48]
   by_cases hz : c = 48
   ·subst hz; simp [cnd]
   ·rw [beq_eq_false_iff_ne.2 hz, if_neg (fun e => hz (Option.some.inj e))]
    simp only [cnd]
    have := digs_le (s.drop k)
    rw [List.length_drop] at this
    rw [wi (by omega)]; rfl
 by_cases h : s.head? = some 45
 ·have hk : sgn s = 1 := if_pos h
  rw [show (s.head? == some 45) = true from beq_iff_eq.2 h]
  have := key 1 hk.symm (by omega)
  simp only [cnd]
  exact this
 ·have hk : sgn s = 0 := if_neg h
  rw [show (s.head? == some 45) = false from beq_eq_false_iff_ne.2 h]
  have := key 0 hk.symm (by omega)
  simp only [cnd]
  exact this
theorem power_ok (s : Str) (hs : s.length ≤ 1073741824) : to_power s = some ((powN s : Nat) : Int) := by
 apply to_power_run
 unfold to_power_B
 cases s with
 | nil => rfl
 | cons c r =>
  rw [show ((c :: r : Str) == ([] : Str)) = false from rfl]
  simp only [cnd]
  rw [show (0 : Int) = ((0 : Nat) : Int) from rfl, nthI_nat]
  simp only [List.getElem?_cons_zero, bnd, bne, u101, u69]
  have tail : (c = 101 ∨ c = 69) → cnd (decide ((List.length (c :: r) : Int) > 1))
    (bnd (nthI (c :: r) 1) fun y6 =>
    cnd ((y6.toNat : Int) == 43)
    (bnd (tslc (c :: r) 2 (List.length (c :: r))) fun y8 => bnd (to_digits y8) fun y10 => cnd (y10 == 0) (some 0) (some (IntKind.wrap .i64 (2 + y10))))
    (bnd (nthI (c :: r) 1) fun y12 =>
    cnd ((y12.toNat : Int) == 45)
     (bnd (tslc (c :: r) 2 (List.length (c :: r))) fun y14 => bnd (to_digits y14) fun y16 => cnd (y16 == 0) (some 0) (some (IntKind.wrap .i64 (2 + y16))))
     (bnd (tslc (c :: r) 1 (List.length (c :: r))) fun y18 => bnd (to_digits y18) fun y20 => cnd (y20 == 0) (some 0) (some (IntKind.wrap .i64 (1 + y20))))))
    (bnd (tslc (c :: r) 1 (List.length (c :: r))) fun y22 => bnd (to_digits y22) fun y24 => cnd (y24 == 0) (some 0) (some (IntKind.wrap .i64 (1 + y24)))) = some ((powN (c :: r) : Nat) : Int) := by
   intro hc
   have hp : powN (c :: r) = if digs ((c :: r).drop (expS (c :: r))) = 0 then 0 else expS (c :: r) + digs ((c :: r).drop (expS (c :: r))) := by
    unfold powN
    rw [if_pos (by simpa using hc)]
   have fin : ∀ k : Nat, k = expS (c :: r) → k ≤ (c :: r).length → bnd (tslc (c :: r) (k : Int) (List.length (c :: r) : Int)) (fun y8 => bnd (to_digits y8) fun y10 => cnd (y10 == 0) (some (0 : Int)) (some (IntKind.wrap .i64 ((k : Int) + y10)))) = some ((powN (c :: r) : Nat) : Int) := by
    intro k hk hle
    rw [tslc_from _ k hle, hp, ← hk]
    simp only [bnd]
    rw [digits_ok _ (by rw [List.length_drop]; omega)]
    simp only [bnd, nz]
    by_cases h0 : digs ((c :: r).drop k) = 0
    ·rw [h0]; rfl
    ·rw [beq_eq_false_iff_ne.2 h0, if_neg h0]
     have := digs_le ((c :: r).drop k)
     rw [List.length_drop] at this
     simp only [cnd]
     rw [wi (by omega)]; rfl
   have f1 := fin 1
   have f2 := fin 2
   cases r with
   | nil =>
    rw [show decide ((List.length [c] : Int) > 1) = false from rfl]
    simp only [cnd]
    exact f1 (by simp [expS]) (by simp [List.length])
   | cons d r' =>
    rw [show decide ((List.length (c :: d :: r') : Int) > 1) = true by simp; omega, show (1 : Int) = ((1 : Nat) : Int) from rfl, nthI_nat]
    simp only [cnd, bnd, List.getElem?_cons_succ, List.getElem?_cons_zero, u43, u45]
    by_cases h43 : d = 43
    ·subst h43
     simp only [beq_self_eq_true]
     exact f2 (by simp [expS]) (by simp)
    ·rw [beq_eq_false_iff_ne.2 h43]
     simp only []
     by_cases h45 : d = 45
     ·subst h45
      simp only [beq_self_eq_true]
      exact f2 (by simp [expS]) (by simp)
     ·rw [beq_eq_false_iff_ne.2 h45]
      exact f1 (by simp [expS, h43, h45]) (by simp)
  by_cases h1 : c = 101
  ·subst h1
   simp only [beq_self_eq_true, Bool.not_true]
   exact tail (.inl rfl)
  ·rw [beq_eq_false_iff_ne.2 h1]
   simp only [Bool.not_false]
   by_cases h2 : c = 69
   ·subst h2
    simp only [beq_self_eq_true, Bool.not_true]
    exact tail (.inr rfl)
   ·rw [beq_eq_false_iff_ne.2 h2]
    simp only [Bool.not_false]
    unfold powN
    rw [if_neg (by simp [h1, h2])]
theorem number_ok (s : Str) (hs : s.length ≤ 1073741824) : to_number s = some (((numN s).1 : Int), (numN s).2) := by
 apply to_number_run
 unfold to_number_B
 rw [whole_ok s hs]
 simp only [bnd, nz, numN]
 by_cases h0 : wholeN s = 0
 ·rw [h0]; rfl
 ·rw [beq_eq_false_iff_ne.2 h0, if_neg h0]
  have hw := wholeN_le s
  simp only [cnd, jn]
  have kk : ∀ (n : Nat) (kind : Int), n ≤ s.length → bnd (tslc s (n : Int) (List.length s : Int)) (fun y17 => bnd (to_power y17) fun y19 => cnd (decide (y19 > 0)) (some ((IntKind.wrap .i64 ((n : Int) + y19)), (4 : Int))) (some ((n : Int), kind))) = some (((expN s (n, kind)).1 : Int), (expN s (n, kind)).2) := by
   intro n kind hn
   rw [tslc_from s n hn]
   simp only [bnd]
   rw [power_ok _ (by rw [List.length_drop]; omega)]
   have hp := powN_le (s.drop n)
   rw [List.length_drop] at hp
   simp only [bnd, expN]
   by_cases h : 0 < powN (s.drop n)
   ·rw [show decide (((powN (s.drop n) : Nat) : Int) > 0) = true by simp; omega, if_pos h, wi (by omega)]; rfl
   ·rw [show decide (((powN (s.drop n) : Nat) : Int) > 0) = false by simp; omega, if_neg h]; rfl
  rw [tslc_from s _ hw]
  simp only [bnd]
  rw [HasPrefix_ok, pre1]
  simp only [bnd, List.head?_drop]
  by_cases h46 : s[wholeN s]? = some 46
  ·have hlt := getElem?_lt h46
   rw [h46]
   simp only [beq_self_eq_true, cnd]
   rw [wi (by omega), show ((wholeN s : Nat) : Int) + 1 = ((wholeN s + 1 : Nat) : Int) by omega, tslc_from s _ (by omega)]
   simp only [bnd]
   have hd := digs_le (s.drop (wholeN s + 1))
   rw [List.length_drop] at hd
   rw [digits_ok _ (by rw [List.length_drop]; omega)]
   simp only [bnd]
   by_cases h : 0 < digs (s.drop (wholeN s + 1))
   ·rw [show decide (((digs (s.drop (wholeN s + 1)) : Nat) : Int) > 0) = true by simp; omega]
    simp only []
    rw [wi (by omega), show ((wholeN s + 1 : Nat) : Int) + ((digs (s.drop (wholeN s + 1)) : Nat) : Int) = ((wholeN s + 1 + digs (s.drop (wholeN s + 1)) : Nat) : Int) by omega]
    have := kk (wholeN s + 1 + digs (s.drop (wholeN s + 1))) 4 (by omega)
    unfold pointN
    rw [if_pos ⟨h46, h⟩]
    exact this
   ·rw [show decide (((digs (s.drop (wholeN s + 1)) : Nat) : Int) > 0) = false by simp; omega]
    simp only []
    unfold pointN
    rw [if_neg (fun e => h e.2)]
    have := kk _ 3 hw
    rw [tslc_from s _ hw] at this
    exact this
  ·rw [beq_eq_false_iff_ne.2 h46]
   simp only [cnd]
   unfold pointN
   rw [if_neg (fun e => h46 e.1)]
   have := kk _ 3 hw
   rw [tslc_from s _ hw] at this
   exact this
theorem Number_ok (s : Str) (hs : s.length ≤ 1073741824) : to_Number s = some (numI s) := by
 apply to_Number_run
 unfold to_Number_B
 rw [number_ok s hs]
 simp only [bnd, numI, bne]
 by_cases h : (numN s).1 = s.length
 ·rw [if_pos h, h]; simp [cnd]
 ·rw [if_neg h, beq_eq_false_iff_ne.2 (fun e => h (by omega))]; rfl
def hexs : Str := [48, 49, 50, 51, 52, 53, 54, 55, 56, 57, 97, 98, 99, 100, 101, 102]
def hexOk (c : UInt8) : Bool :=
 match tIndexByte hexs (bits .or .u8 (c.toNat : Int) 32) with
 | none => false
 | some k =>
  if k < 0 ∨ c.toNat < 48 ∨ (57 < c.toNat ∧ c.toNat < 65) then hexV c == none
  else match hexV c with
   | none => false
   | some d => decide ((d : Int) = k) && decide (d < 16)
def jb (us : List Int) : Str := match joinU us with
 | some l => encL8 l
 | none => []
def jok (us : List Int) : Bool := (joinU us).isSome
theorem intsT_len (s : Str) : (intsT s).length = s.length := by simp [intsT]
def escOk (c : UInt8) : Bool :=
 if idxB escL c < 0 then escV c == none else decide (0 ≤ idxB escL c) && (match escR[(idxB escL c).toNat]? with | some e => escV c == some e | none => false)
def escF (r : Str) (b : Str) (us : List Int) (ok : Bool) : Int × GTokenSaid :=
 if r.head? = some 117 then (match unit4 (r.drop 1) with
  | none => (0, GTokenSaid.mk (intsT b) us ok)
  | some v => (5, GTokenSaid.mk (intsT b) (us ++ [(v : Int)]) ok))
 else match r with
  | [] => (0, GTokenSaid.mk (intsT b) us ok)
  | d :: _ => match escV d with
   | none => (0, GTokenSaid.mk (intsT b) us ok)
   | some e => (1, GTokenSaid.mk (intsT (b ++ jb us ++ [e])) [] (ok && jok us))
def qI (s : Str) (R : Option (Str × Str)) (st : Int × List Int × List Int × Bool) : Prop :=
 ∃ (i : Nat) (bb : Str), st.1 = i ∧ st.2.1 = intsT bb ∧ i ≤ s.length ∧ bb.length + 4 * st.2.2.1.length ≤ 8 * i ∧ st.2.2.1.length ≤ i ∧
 (st.2.2.2 = true → quo (s.drop i) bb st.2.2.1 = R) ∧ (st.2.2.2 = false → R = none)
def qQ (s : Str) (R : Option (Str × Str)) : Unit ⊕ (Int × List Int × List Int × Bool) → Prop
 | .inl _ => R = none
 | .inr st => qI s R st ∧ ∃ i : Nat, st.1 = i ∧ s[i]? = some 34
theorem wadd2 {n k : Nat} (h : n + k ≤ 9223372036854775807) : IntKind.wrap .i64 ((n : Int) + (k : Int)) = ((n + k : Nat) : Int) := by rw [wi (by omega)]; omega
def bI (s : Str) (R : Option (Str × Str)) (st : List Int × Int) : Prop :=
 ∃ (i : Nat) (rb : Str), st.2 = i ∧ st.1 = intsT rb ∧ i ≤ s.length ∧ rb.length ≤ i ∧ blk (s.drop i) rb = R
def bQ (s : Str) (R : Option (Str × Str)) : Unit ⊕ (List Int × Int) → Prop
 | .inl _ => R = none
 | .inr st => ∃ (i : Nat) (rb : Str), st.2 = i ∧ st.1 = intsT rb ∧ i + 3 ≤ s.length ∧ rb.length ≤ i ∧ R = some (rb, s.drop (i + 3))
theorem nthI_0 (c : UInt8) (r : Str) : nthI (c :: r) 0 = some c := nthI_nat (c :: r) 0
def readT (s : Str) : List GToken × Int :=
 if 8192 < s.length then ([], 3) else if srcB s then (match lex s with | some l => (l, 0) | none => ([], 2)) else ([], 2)
theorem rindex_loop (l : Str) (c : UInt8) (hl : l.length ≤ 1073741824) : ∀ (n k : Nat), l.length - k ≤ n → k ≤ l.length →
  tloop (r1_index_l1T l (c.toNat : Int)) (k : Int) = some (if idxB (l.drop k) c < 0 then .inl () else .inr ((k : Int) + idxB (l.drop k) c)) := by
 intro n
 induction n with
 | zero =>
  intro k h1 h2
  have : k = l.length := by omega
  subst this
  rw [List.drop_length]
  refine tloop_exit ?_
  simp only [r1_index_l1T]
  rw [ltF (Nat.le_refl _)]; rfl
 | succ n ih =>
  intro k h1 h2
  by_cases he : k = l.length
  ·subst he
   rw [List.drop_length]
   refine tloop_exit ?_
   simp only [r1_index_l1T]
   rw [ltF (Nat.le_refl _)]; rfl
  ·have hg : l[k]? = some (l[k]'(by omega)) := List.getElem?_eq_getElem (by omega)
   rw [drop_cons hg]
   generalize l[k]'(by omega) = b at hg
   have hb : r1_index_l1T l (c.toNat : Int) (k : Int) = some (if b == c then .inr (.inr (k : Int)) else .inl ((k + 1 : Nat) : Int)) := by
    simp only [r1_index_l1T]
    rw [ltT (by omega), nthI_nat, hg]
    simp only [cnd, bnd]
    rw [wadd (by omega)]
    have : ((b.toNat : Int) == (c.toNat : Int)) = (b == c) := by
     rw [Bool.eq_iff_iff, beq_iff_eq, beq_iff_eq]
     constructor
     ·intro h
      exact UInt8.toNat_inj.1 (by omega)
     ·rintro rfl; rfl
    rw [this]
    cases b == c <;> rfl
   have hu : idxB (b :: l.drop (k + 1)) c = if b == c then 0 else if idxB (l.drop (k + 1)) c == -1 then -1 else idxB (l.drop (k + 1)) c + 1 := rfl
   have hge : -1 ≤ idxB (l.drop (k + 1)) c := Go.Lib.indexByte_ge _ _
   rw [hu]
   cases h : b == c with
   | true =>
    rw [h] at hb
    rw [tloop_exit hb]
    simp
   | false =>
    rw [h] at hb
    rw [tloop_next hb, ih (k + 1) (by omega) (by omega)]
    simp only [Bool.false_eq_true, if_false]
    by_cases h2 : idxB (l.drop (k + 1)) c = -1
    ·rw [h2]; simp
    ·rw [if_neg (by omega), beq_eq_false_iff_ne.2 h2]
     simp only [Bool.false_eq_true, if_false]
     rw [if_neg (by omega)]
     congr 2
     omega
theorem rindex_ok (l : Str) (c : UInt8) (hl : l.length ≤ 1073741824) : r1_index l (c.toNat : Int) = some (idxB l c) := by
 apply r1_index_run
 unfold r1_index_B
 have := rindex_loop l c hl l.length 0 (by omega) (by omega)
 rw [List.drop_zero] at this
 rw [show (0 : Int) = ((0 : Nat) : Int) from rfl, this]
 have hge : -1 ≤ idxB l c := Go.Lib.indexByte_ge _ _
 simp only [bnd]
 by_cases h : idxB l c < 0
 ·rw [if_pos h]
  show some (-1 : Int) = _
  congr 1
  omega
 ·rw [if_neg h]
  show some (((0 : Nat) : Int) + idxB l c) = _
  congr 1
  omega
noncomputable def expR (s : Str) (i_22 kind_23 : Int) : Option (Int × Int) :=
 (cnd (decide (i_22 < (List.length s : Int)))
 (bnd (nthI s i_22) fun y29 =>
 cnd ((y29.toNat : Int) == 101)
 (jn (fun (k_35 : Int) (t_36 : Bool) (t_37 : Bool) =>
 (bnd (r1_run s k_35) fun y39 =>
 cnd (decide (y39 > 0))
 (bnd (r1_run s k_35) fun y41 =>
 some ((IntKind.wrap .i64 (k_35 + y41)), 4))
 (some (i_22, kind_23)))) fun k30 =>
 cnd (decide ((IntKind.wrap .i64 (i_22 + 1)) < (List.length s : Int)))
 (bnd (nthI s (IntKind.wrap .i64 (i_22 + 1))) fun y32 =>
 cnd ((y32.toNat : Int) == 43)
 (k30 (IntKind.wrap .i64 ((IntKind.wrap .i64 (i_22 + 1)) + 1)) true true)
 (bnd (nthI s (IntKind.wrap .i64 (i_22 + 1))) fun y34 =>
 cnd ((y34.toNat : Int) == 45)
 (k30 (IntKind.wrap .i64 ((IntKind.wrap .i64 (i_22 + 1)) + 1)) true true)
 (k30 (IntKind.wrap .i64 (i_22 + 1)) true false)))
 (k30 (IntKind.wrap .i64 (i_22 + 1)) false false))
 (bnd (nthI s i_22) fun y43 =>
 cnd ((y43.toNat : Int) == 69)
 (jn (fun (k_49 : Int) (t_50 : Bool) (t_51 : Bool) =>
 (bnd (r1_run s k_49) fun y53 =>
 cnd (decide (y53 > 0))
 (bnd (r1_run s k_49) fun y55 =>
 some ((IntKind.wrap .i64 (k_49 + y55)), 4))
 (some (i_22, kind_23)))) fun k44 =>
 cnd (decide ((IntKind.wrap .i64 (i_22 + 1)) < (List.length s : Int)))
 (bnd (nthI s (IntKind.wrap .i64 (i_22 + 1))) fun y46 =>
 cnd ((y46.toNat : Int) == 43)
 (k44 (IntKind.wrap .i64 ((IntKind.wrap .i64 (i_22 + 1)) + 1)) true true)
 (bnd (nthI s (IntKind.wrap .i64 (i_22 + 1))) fun y48 =>
 cnd ((y48.toNat : Int) == 45)
 (k44 (IntKind.wrap .i64 ((IntKind.wrap .i64 (i_22 + 1)) + 1)) true true)
 (k44 (IntKind.wrap .i64 (i_22 + 1)) true false)))
 (k44 (IntKind.wrap .i64 (i_22 + 1)) false false))
 (some (i_22, kind_23))))
 (some (i_22, kind_23)))
theorem expR_ok (s : Str) (i : Nat) (kind : Int) (hs : s.length ≤ 1073741000) (hi : i ≤ s.length) : expR s (i : Int) kind = some (((expN s (i, kind)).1 : Int), (expN s (i, kind)).2) := by
 unfold expR
 simp only [jn]
 by_cases hlt : i < s.length
 ·have hg : s[i]? = some (s[i]'hlt) := List.getElem?_eq_getElem hlt
  generalize s[i]'hlt = c at hg
  rw [ltT hlt, nthI_nat, hg]
  simp only [cnd, bnd, u101, u69]
  rw [wadd (by omega), wadd (by omega)]
  have kk : ∀ k : Nat, k ≤ s.length → bnd (r1_run s (k : Int)) (fun y39 => cnd (decide (y39 > 0)) (bnd (r1_run s (k : Int)) fun y41 => some ((IntKind.wrap .i64 ((k : Int) + y41)), (4 : Int))) (some ((i : Int), kind))) = some (if 0 < digs (s.drop k) then (((k + digs (s.drop k) : Nat) : Int), 4) else ((i : Int), kind)) := by
   intro k hk
   rw [run_ok s k (by omega) hk]
   have := digs_le (s.drop k)
   rw [List.length_drop] at this
   simp only [bnd]
   by_cases h : 0 < digs (s.drop k)
   ·rw [show decide (((digs (s.drop k) : Nat) : Int) > 0) = true from decide_eq_true (by omega), if_pos h, wadd2 (by omega)]; rfl
   ·rw [show decide (((digs (s.drop k) : Nat) : Int) > 0) = false from decide_eq_false (by omega), if_neg h]; rfl
  have tail : (c = 101 ∨ c = 69) → (cnd (decide (((i + 1 : Nat) : Int) < (List.length s : Int)))
     (bnd (nthI s ((i + 1 : Nat) : Int)) fun y32 =>
     cnd (y32 == 43)
     (bnd (r1_run s ((i + 1 + 1 : Nat) : Int)) (fun y39 => cnd (decide (y39 > 0)) (bnd (r1_run s ((i + 1 + 1 : Nat) : Int)) fun y41 => some ((IntKind.wrap .i64 (((i + 1 + 1 : Nat) : Int) + y41)), (4 : Int))) (some ((i : Int), kind))))
     (bnd (nthI s ((i + 1 : Nat) : Int)) fun y34 =>
     cnd (y34 == 45)
      (bnd (r1_run s ((i + 1 + 1 : Nat) : Int)) (fun y39 => cnd (decide (y39 > 0)) (bnd (r1_run s ((i + 1 + 1 : Nat) : Int)) fun y41 => some ((IntKind.wrap .i64 (((i + 1 + 1 : Nat) : Int) + y41)), (4 : Int))) (some ((i : Int), kind))))
      (bnd (r1_run s ((i + 1 : Nat) : Int)) (fun y39 => cnd (decide (y39 > 0)) (bnd (r1_run s ((i + 1 : Nat) : Int)) fun y41 => some ((IntKind.wrap .i64 (((i + 1 : Nat) : Int) + y41)), (4 : Int))) (some ((i : Int), kind))))))
     (bnd (r1_run s ((i + 1 : Nat) : Int)) (fun y39 => cnd (decide (y39 > 0)) (bnd (r1_run s ((i + 1 : Nat) : Int)) fun y41 => some ((IntKind.wrap .i64 (((i + 1 : Nat) : Int) + y41)), (4 : Int))) (some ((i : Int), kind))))) =
    some (if 0 < digs (s.drop (i + expS (s.drop i))) then (((i + expS (s.drop i) + digs (s.drop (i + expS (s.drop i))) : Nat) : Int), 4) else ((i : Int), kind)) := by
   intro hc
   have he : expS (s.drop i) = if s[i + 1]? = some 43 ∨ s[i + 1]? = some 45 then 2 else 1 := by unfold expS; rw [List.getElem?_drop]
   by_cases h1 : i + 1 < s.length
   ·have hg1 : s[i + 1]? = some (s[i + 1]'h1) := List.getElem?_eq_getElem h1
    generalize s[i + 1]'h1 = d at hg1
    rw [ltT h1, nthI_nat, hg1]
    rw [hg1] at he
    simp only [cnd, bnd]
    by_cases h43 : d = 43
    ·subst h43
     rw [show expS (s.drop i) = 2 by rw [he]; simp, show ((43 : UInt8) == 43) = true from rfl]
     exact kk (i + 2) (by omega)
    ·rw [beq_eq_false_iff_ne.2 h43]
     simp only []
     by_cases h45 : d = 45
     ·subst h45
      rw [show expS (s.drop i) = 2 by rw [he]; simp, show ((45 : UInt8) == 45) = true from rfl]
      exact kk (i + 2) (by omega)
     ·rw [beq_eq_false_iff_ne.2 h45, show expS (s.drop i) = 1 by rw [he]; simp [h43, h45]]
      exact kk (i + 1) (by omega)
   ·rw [ltF (by omega), show expS (s.drop i) = 1 by rw [he, List.getElem?_eq_none (by omega)]; simp]
    exact kk (i + 1) (by omega)
  have fin : (c = 101 ∨ c = 69) → some (if 0 < digs (s.drop (i + expS (s.drop i))) then (((i + expS (s.drop i) + digs (s.drop (i + expS (s.drop i))) : Nat) : Int), (4 : Int)) else ((i : Int), kind)) =
    some (((expN s (i, kind)).1 : Int), (expN s (i, kind)).2) := by
   intro hc
   have hp : powN (s.drop i) = if digs (s.drop (i + expS (s.drop i))) = 0 then 0 else expS (s.drop i) + digs (s.drop (i + expS (s.drop i))) := by
    unfold powN
    rw [List.getElem?_drop, Nat.add_zero, hg, if_pos (by rcases hc with rfl | rfl <;> simp), List.drop_drop]
   unfold expN
   simp only []
   rw [hp]
   by_cases h : 0 < digs (s.drop (i + expS (s.drop i)))
   ·rw [if_pos h, if_neg (show ¬ digs (s.drop (i + expS (s.drop i))) = 0 by omega), if_pos (by omega)]
    simp only [Nat.add_assoc]
   ·rw [if_neg h, if_pos (show digs (s.drop (i + expS (s.drop i))) = 0 by omega), if_neg (by omega)]
  by_cases h101 : c = 101
  ·subst h101
   rw [← fin (.inl rfl), ← tail (.inl rfl)]
   simp only [cnd, bnd, u43, u45]
   rfl
  ·rw [beq_eq_false_iff_ne.2 h101]
   simp only []
   by_cases h69 : c = 69
   ·subst h69
    rw [← fin (.inr rfl), ← tail (.inr rfl)]
    simp only [cnd, bnd, u43, u45]
    rfl
   ·have hp : powN (s.drop i) = 0 := by
     unfold powN
     rw [List.getElem?_drop, Nat.add_zero, hg, if_neg (by simp [h101, h69])]
    unfold expN
    simp only []
    rw [beq_eq_false_iff_ne.2 h69, hp, if_neg (by omega)]
 ·have hp : powN (s.drop i) = 0 := by
   unfold powN
   rw [List.getElem?_drop, List.getElem?_eq_none (by omega), if_neg (by simp)]
  unfold expN
  simp only []
  rw [ltF (by omega), hp, if_neg (by omega)]
  rfl
theorem numeral_ok (s : Str) (hs : s.length ≤ 1073741000) : r1_numeral s = some (((numN s).1 : Int), (numN s).2) := by
  apply r1_numeral_run
  unfold r1_numeral_B
  have rest : ∀ k : Nat, k = sgn s → bnd (r1_run s (k : Int)) (fun y8 =>
    cnd (y8 == 0)
     (some ((0 : Int), (0 : Int)))
     (jn (fun (n_13 : Int) (t_14 : Bool) =>
      (jn (fun (i_22 : Int) (kind_23 : Int) (t_24 : Bool) (t_25 : Bool) (t_26 : Bool) (t_27 : Bool) => expR s i_22 kind_23) fun k15 =>
      cnd (decide ((IntKind.wrap .i64 ((k : Int) + n_13)) < (List.length s : Int)))
       (bnd (nthI s (IntKind.wrap .i64 ((k : Int) + n_13))) fun y17 =>
       cnd ((y17.toNat : Int) == 46)
        (bnd (r1_run s (IntKind.wrap .i64 ((IntKind.wrap .i64 ((k : Int) + n_13)) + 1))) fun y19 =>
        cnd (decide (y19 > 0))
         (bnd (r1_run s (IntKind.wrap .i64 ((IntKind.wrap .i64 ((k : Int) + n_13)) + 1))) fun y21 =>
         k15 (IntKind.wrap .i64 ((IntKind.wrap .i64 ((IntKind.wrap .i64 ((k : Int) + n_13)) + 1)) + y21)) 4 true ((y17.toNat : Int) == 46) true true)
         (k15 (IntKind.wrap .i64 ((k : Int) + n_13)) 3 true ((y17.toNat : Int) == 46) true false))
        (k15 (IntKind.wrap .i64 ((k : Int) + n_13)) 3 true ((y17.toNat : Int) == 46) false false))
       (k15 (IntKind.wrap .i64 ((k : Int) + n_13)) 3 false false false false))) fun k10 =>
     bnd (nthI s (k : Int)) fun y12 =>
     cnd ((y12.toNat : Int) == 48)
      (k10 1 true)
      (k10 y8 false))) = some (((numN s).1 : Int), (numN s).2) := by
    intro k hk
    have hsl := sgn_le s
    have hdl := digs_le (s.drop k)
    rw [List.length_drop] at hdl
    rw [run_ok s k (by omega) (by omega)]
    simp only [bnd, nz, jn]
    unfold numN wholeN
    rw [← hk]
    by_cases h0 : digs (s.drop k) = 0
    · rw [h0]; rfl
    · rw [beq_eq_false_iff_ne.2 h0, if_neg h0]
      obtain ⟨c, r, hc, _⟩ := digs_lt h0
      have hg : s[k]? = some c := by
        have : (s.drop k)[0]? = some c := by rw [hc]; rfl
        rw [List.getElem?_drop] at this; exact this
      have hgl := getElem?_lt hg
      simp only [cnd]
      rw [nthI_nat, hg]
      simp only [u48]
      have two : ∀ (n : Nat), 0 < n → k + n ≤ s.length →
          cnd (decide ((IntKind.wrap .i64 ((k : Int) + (n : Int))) < (List.length s : Int)))
       (bnd (nthI s (IntKind.wrap .i64 ((k : Int) + (n : Int)))) fun y17 =>
       cnd ((y17.toNat : Int) == 46)
        (bnd (r1_run s (IntKind.wrap .i64 ((IntKind.wrap .i64 ((k : Int) + (n : Int))) + 1))) fun y19 =>
        cnd (decide (y19 > 0))
         (bnd (r1_run s (IntKind.wrap .i64 ((IntKind.wrap .i64 ((k : Int) + (n : Int))) + 1))) fun y21 =>
         expR s (IntKind.wrap .i64 ((IntKind.wrap .i64 ((IntKind.wrap .i64 ((k : Int) + (n : Int))) + 1)) + y21)) 4)
         (expR s (IntKind.wrap .i64 ((k : Int) + (n : Int))) 3))
        (expR s (IntKind.wrap .i64 ((k : Int) + (n : Int))) 3))
       (expR s (IntKind.wrap .i64 ((k : Int) + (n : Int))) 3) = some (((expN s (pointN s (k + n))).1 : Int), (expN s (pointN s (k + n))).2) := by
        intro n hn hle
        rw [wadd2 (by omega)]
        unfold pointN
        by_cases hlt : k + n < s.length
        · have hg2 : s[k + n]? = some (s[k + n]'hlt) := List.getElem?_eq_getElem hlt
          generalize s[k + n]'hlt = d at hg2
          rw [ltT hlt, nthI_nat, hg2]
          simp only [cnd, bnd, u46]
          by_cases h46 : d = 46
          · subst h46
            rw [show ((46 : UInt8) == 46) = true from rfl, wadd (by omega), run_ok s _ (by omega) (by omega)]
            simp only []
            have hd2 := digs_le (s.drop (k + n + 1))
            rw [List.length_drop] at hd2
            by_cases h : 0 < digs (s.drop (k + n + 1))
            · rw [show decide (((digs (s.drop (k + n + 1)) : Nat) : Int) > 0) = true from decide_eq_true (by omega), if_pos ⟨trivial, h⟩, wadd2 (by omega)]
              exact expR_ok s _ 4 hs (by omega)
            · rw [show decide (((digs (s.drop (k + n + 1)) : Nat) : Int) > 0) = false from decide_eq_false (by omega), if_neg (fun e => h e.2)]
              exact expR_ok s _ 3 hs (by omega)
          · rw [beq_eq_false_iff_ne.2 h46, if_neg (fun e => h46 (Option.some.inj e.1))]
            exact expR_ok s _ 3 hs (by omega)
        · rw [ltF (by omega), if_neg (by rw [List.getElem?_eq_none (by omega)]; simp)]
          exact expR_ok s _ 3 hs (by omega)
      simp only [cnd, bnd] at two
      by_cases h48 : c = 48
      · subst h48
        rw [if_pos rfl, if_neg (by omega)]
        exact two 1 (by omega) (by omega)
      · rw [beq_eq_false_iff_ne.2 h48, if_neg (fun e => h48 (Option.some.inj e)), if_neg (by omega)]
        exact two _ (by omega) (by omega)
  have r0 := rest 0
  have r1 := rest 1
  simp only [jn, expR] at r0 r1 ⊢
  cases s with
  | nil => exact r0 rfl
  | cons c r =>
    rw [show decide ((0 : Int) < ((c :: r).length : Int)) = true from decide_eq_true (by simp), nthI_0]
    simp only [cnd, bnd, u45] at r0 r1 ⊢
    by_cases h : c = 45
    · subst h
      exact r1 rfl
    · rw [beq_eq_false_iff_ne.2 h]
      exact r0 (by unfold sgn; rw [if_neg (by simp [h])])
theorem rNumber_ok (s : Str) (hs : s.length ≤ 1073741000) : r1_Number s = some (numI s) := by
 apply r1_Number_run
 unfold r1_Number_B
 rw [numeral_ok s hs]
 simp only [bnd, numI, bne]
 by_cases h : (numN s).1 = s.length
 ·rw [if_pos h, h]; simp [cnd]
 ·rw [if_neg h, beq_eq_false_iff_ne.2 (fun e => h (by omega))]; rfl
def ok8 (s : Str) : Prop := (cps s).isSome = true
theorem ok8_dec {s : Str} (hne : s ≠ []) (h : ok8 s) : ∃ c k, decR s = some (c, k) := by
 cases hd : decR s with
 | none => unfold ok8 at h; rw [cps_none hne hd] at h; cases h
 | some p => exact ⟨p.1, p.2, rfl⟩
def rI (s : Str) (R : Option (Str × Str)) (st : Int × List Int × Str) : Prop :=
 ∃ i : Nat, st.1 = i ∧ i ≤ s.length ∧ st.2.2.length + 4 * st.2.1.length ≤ 8 * i ∧ st.2.1.length ≤ i ∧ ok8 (s.drop i) ∧ quo (s.drop i) st.2.2 st.2.1 = R
def rQ (s : Str) (R : Option (Str × Str)) (r : Str × Int × Bool) : Prop :=
 match R with
 | none => r = ([], 0, false)
 | some p => r = (p.1, ((s.length - p.2.length : Nat) : Int), true)
def Rnd {σ ρ : Type} (I : σ → Prop) (m : σ → Nat) (Q : ρ → Prop) (s : σ) (x : Option (σ ⊕ ρ)) : Prop :=
 (∃ r, x = some (.inr r) ∧ Q r) ∨ ∃ s', x = some (.inl s') ∧ I s' ∧ m s' < m s
def sI (s : Str) (R : Option (Str × Str)) (st : Int × Str) : Prop :=
 ∃ i : Nat, st.1 = i ∧ i ≤ s.length ∧ st.2.length ≤ i ∧ blk (s.drop i) st.2 = R
def sQ (s : Str) (R : Option (Str × Str)) : Unit ⊕ (Str × Int) → Prop
 | .inl _ => R = none
 | .inr r => ∃ p, R = some p ∧ r = (value p.1, ((s.length - p.2.length : Nat) : Int))
def numB (c : UInt8) : Bool := isD c || c == 45 || c == 43 || c == 46 || c == 101 || c == 69
def headOk (c : UInt8) : Bool := !isGap c && c != 239 && c != 35 && c != 34 && c != 46 && !isMark c && !isL c
theorem awake3_ok : s3_awake = some true := s3_awake_run 1000 (by kernel_rfl)
theorem and15N {c : Nat} (h : c < 1073741824) : bits .and .i64 (c : Int) 15 = ((c % 16 : Nat) : Int) := by
 have h0 : bits .and .i64 (c : Int) 15 = IntKind.wrap .i64 ((BitVec.ofInt 64 (c : Int) &&& BitVec.ofInt 64 ((15 : Nat) : Int)).toNat : Int) := rfl
 have h1 : (BitVec.ofInt 64 (c : Int) &&& BitVec.ofInt 64 ((15 : Nat) : Int)).toNat = c % 16 := by
  rw [BitVec.ofInt_natCast, BitVec.ofInt_natCast, BitVec.toNat_and, BitVec.toNat_ofNat, BitVec.toNat_ofNat, Nat.mod_eq_of_lt (by omega), Nat.mod_eq_of_lt (by omega)]
  exact Nat.and_two_pow_sub_one_eq_mod c 4
 rw [h0, h1]
 exact wn (by omega)
def hx (n : Nat) : UInt8 := hexs.getD (n % 16) 0
def uni (v : Nat) : Str := [92, 117, hx (v / 4096), hx (v / 256), hx (v / 16), hx v]
def hx22 : Str := [48, 49, 50, 51, 52, 53, 54, 55, 56, 57, 97, 98, 99, 100, 101, 102, 65, 66, 67, 68, 69, 70]
def uniL (l : List Nat) : Str := l.flatMap uni
def btail : Str := [92, 34, 34, 34, 120, 34, 34, 34]
theorem hexs_at (n : Nat) : nthI hexs ((n % 16 : Nat) : Int) = some (hx n) := by
 have h : ∀ d : Fin 16, nthI hexs ((d.val : Nat) : Int) = some (hexs.getD d.val 0) := by decide
 exact h ⟨n % 16, Nat.mod_lt _ (by omega)⟩
theorem unit_step (u : Nat) (hu : u ≤ 65535) (b : Str) (hb : b.length ≤ 1073741824) (k : Nat) (hk : k ≤ 3) :
  to_unit_l1T (u : Int) (intsT b, (k : Int)) = some (.inl (intsT (b ++ [hx (u / 2 ^ (4 * k))]), (k : Int) - 1)) := by
 simp only [to_unit_l1T]
 have hd : u / 2 ^ (4 * k) ≤ u := Nat.div_le_self _ _
 rw [show decide ((k : Int) ≥ 0) = true from decide_eq_true (by omega), show IntKind.wrap .i64 (4 * (k : Int)) = ((4 * k : Nat) : Int) by rw [wi (by omega)]; omega]
 have ht : tshr .i64 (u : Int) ((4 * k : Nat) : Int) = some ((u / 2 ^ (4 * k) : Nat) : Int) := by
  unfold tshr
  rw [if_neg (by omega)]
  exact congrArg some (fdivP u (2 ^ (4 * k)) (4 * k) rfl (by omega))
 simp only [cnd, bnd]
 rw [ht]
 simp only []
 rw [show Int.tmod ((u / 2 ^ (4 * k) : Nat) : Int) 16 = ((u / 2 ^ (4 * k) % 16 : Nat) : Int) from rfl]
 rw [show nthI ([48, 49, 50, 51, 52, 53, 54, 55, 56, 57, 97, 98, 99, 100, 101, 102] : Str) ((u / 2 ^ (4 * k) % 16 : Nat) : Int) = some (hx (u / 2 ^ (4 * k))) from hexs_at _]
 simp only []
 rw [tapp_ok (by rw [intsT_len, lim_val]; simp; omega), show ∀ c : UInt8, [((c.toNat : Nat) : Int)] = intsT [c] from fun _ => rfl, ← intsT_append, wi (by omega)]
theorem unit_ok (b : Str) (u : Nat) (hu : u ≤ 65535) (hb : b.length ≤ 1073741000) : to_unit (intsT b) (u : Int) = some (intsT (b ++ uni u)) := by
 apply to_unit_run
 unfold to_unit_B
 rw [tapp_ok (by rw [intsT_len, lim_val]; simp; omega), show ([92, 117] : List Int) = intsT [92, 117] from rfl, ← intsT_append]
 simp only [bnd]
 have s1 := unit_step u hu (b ++ [92, 117]) (by simp; omega) 3 (by omega)
 have s2 := unit_step u hu (b ++ [92, 117] ++ [hx (u / 4096)]) (by simp; omega) 2 (by omega)
 have s3 := unit_step u hu (b ++ [92, 117] ++ [hx (u / 4096)] ++ [hx (u / 256)]) (by simp; omega) 1 (by omega)
 have s4 := unit_step u hu (b ++ [92, 117] ++ [hx (u / 4096)] ++ [hx (u / 256)] ++ [hx (u / 16)]) (by simp; omega) 0 (by omega)
 have key : tloop (to_unit_l1T (u : Int)) (intsT (b ++ [92, 117]), 3) = some (intsT (b ++ uni u)) := by
  refine (tloop_next s1).trans ?_
  refine (tloop_next s2).trans ?_
  refine (tloop_next s3).trans ?_
  refine (tloop_next s4).trans ?_
  refine (tloop_exit rfl).trans ?_
  simp [uni]
 rw [key]
def qc (c : Nat) : Str :=
 if c = 34 then [92, 34] else if c = 92 then [92, 92] else if c = 10 then [92, 110] else if c < 32 then uni c
 else if 65536 ≤ c then uni (55296 + (c - 65536) / 1024) ++ uni (56320 + (c - 65536) % 1024) else encC c
def qcL (l : List Nat) : Str := l.flatMap qc
theorem qc_len (c : Nat) : (qc c).length ≤ 12 := by
 have := (encC_pos c).2
 unfold qc
 repeat' split
 all_goals simp [uni]
 omega
theorem units_one {c : Nat} (h : okC c) : ls_Units (encC c) = some (u16 c, true) := by
 have hl := encC_pos c
 rw [ls_Units_ok _ (by omega)]
 have := cps_enc [c] (by simpa using h)
 have e : encL8 [c] = encC c := by simp [encL8]
 rw [e] at this
 rw [this]
 simp [u16L]
theorem quote_units1 (y : List Int × Bool) (u : Nat) (hy : y.1 = [(u : Int)]) (hu : u ≤ 65535) (b : Str) (hb : b.length ≤ 1073741000) :
  tloop (to_quote_l1T y) (intsT b, 0) = some (intsT (b ++ uni u)) := by
 have s1 : to_quote_l1T y (intsT b, 0) = some (.inl (intsT (b ++ uni u), 1)) := by
  simp only [to_quote_l1T]
  rw [hy]
  rw [show decide ((0 : Int) < (([(u : Int)] : List Int).length : Int)) = true from rfl, show nthI [(u : Int)] 0 = some (u : Int) from rfl]
  simp only [cnd, bnd]
  rw [unit_ok b u hu hb]
  rfl
 rw [tloop_next s1]
 refine tloop_exit ?_
 simp only [to_quote_l1T]
 rw [hy]; rfl
theorem quote_units2 (y : List Int × Bool) (u v : Nat) (hy : y.1 = [(u : Int), (v : Int)]) (hu : u ≤ 65535) (hv : v ≤ 65535) (b : Str) (hb : b.length ≤ 1073740000) :
  tloop (to_quote_l2T y) (intsT b, 0) = some (intsT (b ++ uni u ++ uni v)) := by
 have s1 : to_quote_l2T y (intsT b, 0) = some (.inl (intsT (b ++ uni u), 1)) := by
  simp only [to_quote_l2T]
  rw [hy]
  rw [show decide ((0 : Int) < (([(u : Int), (v : Int)] : List Int).length : Int)) = true from rfl, show nthI [(u : Int), (v : Int)] 0 = some (u : Int) from rfl]
  simp only [cnd, bnd]
  rw [unit_ok b u hu (by omega)]
  rfl
 have s2 : to_quote_l2T y (intsT (b ++ uni u), 1) = some (.inl (intsT (b ++ uni u ++ uni v), 2)) := by
  simp only [to_quote_l2T]
  rw [hy]
  rw [show decide ((1 : Int) < (([(u : Int), (v : Int)] : List Int).length : Int)) = true from rfl, show nthI [(u : Int), (v : Int)] 1 = some (v : Int) from rfl]
  simp only [cnd, bnd]
  rw [unit_ok _ v hv (by simp [uni]; omega)]
  rfl
 rw [tloop_next s1, tloop_next s2]
 refine tloop_exit ?_
 simp only [to_quote_l2T]
 rw [hy]; rfl
theorem ieq {c n : Nat} : ((c : Int) == (n : Int)) = (c == n) := by
 rw [Bool.eq_iff_iff, beq_iff_eq, beq_iff_eq]; omega
theorem quote_loop (s : Str) (hs : s.length ≤ 1048576) : ∀ (n i : Nat) (l : List Nat) (b : Str), s.length - i ≤ n → i ≤ s.length → cps (s.drop i) = some l → b.length ≤ 12 * i + 1 →
  tloop (to_quote_l3T s) (intsT b, (i : Int)) = some (intsT (b ++ qcL l)) := by
 intro n
 have fin : ∀ i l (b : Str), i = s.length → cps (s.drop i) = some l → tloop (to_quote_l3T s) (intsT b, (i : Int)) = some (intsT (b ++ qcL l)) := by
  intro i l b hi hl
  subst hi
  rw [List.drop_length, cps_nil] at hl
  cases hl
  refine tloop_exit ?_
  simp only [to_quote_l3T]
  rw [ltF (Nat.le_refl _)]
  simp [cnd, qcL]
 induction n with
 | zero =>
  intro i l b h1 h2 h3 h4
  exact fin i l b (by omega) h3
 | succ n ih =>
  intro i l b h1 h2 h3 h4
  by_cases he : i = s.length
  ·exact fin i l b he h3
  ·have hlt : i < s.length := by omega
   obtain ⟨c, k, hdec⟩ := ok8_dec (drop_ne hlt) (show ok8 (s.drop i) by unfold ok8; rw [h3]; rfl)
   obtain ⟨hc, hk, hen, hk1, hk4, hkl⟩ := decR_some hdec
   rw [List.length_drop] at hkl
   have h3' := cps_some hdec
   rw [List.drop_drop, h3] at h3'
   obtain ⟨l', hl', rfl⟩ : ∃ l', cps (s.drop (i + k)) = some l' ∧ l = c :: l' := by
    cases hx : cps (s.drop (i + k)) with
    | none => rw [hx] at h3'; cases h3'
    | some l' => rw [hx] at h3'; exact ⟨l', rfl, Option.some.inj h3'⟩
   have hq : qcL (c :: l') = qc c ++ qcL l' := rfl
   have hql := qc_len c
   have next : ∀ w : Str, qc c = w → to_quote_l3T s (intsT b, (i : Int)) = some (.inl (intsT (b ++ w), ((i + k : Nat) : Int))) → tloop (to_quote_l3T s) (intsT b, (i : Int)) = some (intsT (b ++ qcL (c :: l'))) := by
    intro w hw hb
    rw [tloop_next hb, hq, hw, ← List.append_assoc]
    exact ih (i + k) l' (b ++ w) (by omega) (by omega) hl' (by rw [← hw]; simp; omega)
   have hb : to_quote_l3T s (intsT b, (i : Int)) = to_quote_l3T s (intsT b, (i : Int)) := rfl
   conv at hb => rhs; unfold to_quote_l3T
   simp only [] at hb
   rw [ltT hlt, ls_Code_nat s i hlt (by omega), codeI_some hdec] at hb
   simp only [cnd, bnd] at hb
   rw [if_neg (show ¬ ((1 : Int) > (k : Int)) by omega), wadd2 (by omega)] at hb
   have hsl : tslc s (i : Int) ((i + k : Nat) : Int) = some (encC c) := by
    rw [tslc_ok (by omega), show (((i + k : Nat) : Int)).toNat = i + k by omega, show ((i : Int)).toNat = i by omega, List.drop_take, show i + k - i = k by omega, hen, hk, List.take_left]
   rw [hsl] at hb
   simp only [] at hb
   rw [units_one hc] at hb
   simp only [] at hb
   rw [show ((c : Int) == 34) = (c == 34) from ieq (n := 34), show ((c : Int) == 92) = (c == 92) from ieq (n := 92), show ((c : Int) == 10) = (c == 10) from ieq (n := 10)] at hb
   by_cases h34 : c = 34
   ·subst h34
    refine next [92, 34] rfl ?_
    rw [hb]
    rw [show IntKind.wrap .u8 ((34 : Nat) : Int) = 34 from rfl, tapp_ok (by rw [intsT_len, lim_val]; simp; omega), show ([92, 34] : List Int) = intsT [92, 34] from rfl, ← intsT_append]
    rfl
   ·rw [beq_eq_false_iff_ne.2 h34] at hb
    simp only [] at hb
    by_cases h92 : c = 92
    ·subst h92
     refine next [92, 92] rfl ?_
     rw [hb]
     rw [show IntKind.wrap .u8 ((92 : Nat) : Int) = 92 from rfl, tapp_ok (by rw [intsT_len, lim_val]; simp; omega), show ([92, 92] : List Int) = intsT [92, 92] from rfl, ← intsT_append]
     rfl
    ·rw [beq_eq_false_iff_ne.2 h92] at hb
     simp only [] at hb
     by_cases h10 : c = 10
     ·subst h10
      refine next [92, 110] rfl ?_
      rw [hb]
      rw [tapp_ok (by rw [intsT_len, lim_val]; simp; omega), show ([92, 110] : List Int) = intsT [92, 110] from rfl, ← intsT_append]
      rfl
     ·rw [beq_eq_false_iff_ne.2 h10] at hb
      simp only [] at hb
      by_cases h32 : c < 32
      ·rw [show decide ((c : Int) < 32) = true from decide_eq_true (by omega)] at hb
       simp only [] at hb
       rw [quote_units1 _ c (by unfold u16; rw [if_pos (by omega)]) (by omega) b (by omega)] at hb
       exact next (uni c) (by unfold qc; rw [if_neg h34, if_neg h92, if_neg h10, if_pos h32]) hb
      ·rw [show decide ((c : Int) < 32) = false from decide_eq_false (by omega)] at hb
       simp only [] at hb
       by_cases hbig : 65536 ≤ c
       ·have hc2 : c ≤ 1114111 := by unfold okC at hc; omega
        rw [show decide ((c : Int) ≥ 65536) = true from decide_eq_true (by omega)] at hb
        simp only [] at hb
        rw [quote_units2 _ (55296 + (c - 65536) / 1024) (56320 + (c - 65536) % 1024) (by unfold u16; rw [if_neg (by omega)]) (by omega) (by omega) b (by omega), List.append_assoc] at hb
        exact next _ (by unfold qc; rw [if_neg h34, if_neg h92, if_neg h10, if_neg h32, if_pos hbig]) hb
       ·rw [show decide ((c : Int) ≥ 65536) = false from decide_eq_false (by omega)] at hb
        simp only [] at hb
        rw [tapp_ok (by rw [intsT_len, intsT_len, lim_val]; omega), ← intsT_append] at hb
        exact next _ (by unfold qc; rw [if_neg h34, if_neg h92, if_neg h10, if_neg h32, if_neg hbig]) hb
def quoteS (s : Str) : Str := match cps s with
 | some l => 34 :: (qcL l ++ [34])
 | none => []
theorem qcL_len (l : List Nat) : (qcL l).length ≤ 12 * l.length := by
 induction l with
 | nil => simp [qcL]
 | cons c l ih =>
  have := qc_len c
  have e : qcL (c :: l) = qc c ++ qcL l := rfl
  rw [e, List.length_append, List.length_cons]; omega
theorem quote_ok (s : Str) (hs : s.length ≤ 1048576) (h8 : ok8 s) : to_quote s = some (quoteS s) := by
 apply to_quote_run
 unfold to_quote_B quoteS
 cases hl : cps s with
 | none => unfold ok8 at h8; rw [hl] at h8; cases h8
 | some l =>
  have hll := (enc_cps s.length s l (Nat.le_refl _) hl).2.2
  have hql := qcL_len l
  have := quote_loop s hs s.length 0 l [34] (by omega) (by omega) (by rw [List.drop_zero]; exact hl) (by simp)
  rw [show (([34] : List Int), (0 : Int)) = (intsT [34], ((0 : Nat) : Int)) from rfl, this]
  simp only [bnd]
  rw [tapp_ok (by rw [intsT_len, lim_val]; simp; omega), show ([34] : List Int) = intsT [34] from rfl, ← intsT_append]
  simp only []
  rw [bytesT_intsT]
  rfl
theorem runit_ok (v : Nat) (hv : v ≤ 65535) : r1_unit (v : Int) = some (uni v) := by
 apply r1_unit_run
 unfold r1_unit_B
 have h : ∀ (n k : Nat), n = 2 ^ k → k ≤ 32 → nthI hexs (bits .and .i64 (Int.fdiv (v : Int) (2 ^ min (Int.toNat (k : Int)) 64)) 15) = some (hx (v / n)) := by
  intro n k hn hk
  have : v / n ≤ v := Nat.div_le_self _ _
  rw [fdivP v n k hn hk, and15N (by omega), hexs_at]
 have h12 := h 4096 12 rfl (by omega)
 have h8 := h 256 8 rfl (by omega)
 have h4 := h 16 4 rfl (by omega)
 have h0 : nthI hexs (bits .and .i64 (v : Int) 15) = some (hx v) := by rw [and15N (by omega), hexs_at]
 unfold hexs at h12 h8 h4 h0
 rw [show ((12 : Nat) : Int) = 12 from rfl] at h12
 rw [show ((8 : Nat) : Int) = 8 from rfl] at h8
 rw [show ((4 : Nat) : Int) = 4 from rfl] at h4
 rw [h12, h8, h4, h0]
 simp only [bnd]
 rw [show bytesT [((hx (v / 4096)).toNat : Int), ((hx (v / 256)).toNat : Int), ((hx (v / 16)).toNat : Int), ((hx v).toNat : Int)] = [hx (v / 4096), hx (v / 256), hx (v / 16), hx v] from bytesT_intsT [hx (v / 4096), hx (v / 256), hx (v / 16), hx v]]
 rw [tapp_ok (by rw [lim_val]; simp)]
 rfl
theorem rquote_loop (l : List Nat) (fl : Bool) (hl : l.length ≤ 1048576) (hc : ∀ c ∈ l, okC c) : ∀ (n i : Nat) (b : Str), l.length - i ≤ n → i ≤ l.length → b.length ≤ 12 * i + 1 →
  tloop (r1_Quote_l1T (intN l, fl)) (b, (i : Int)) = some (b ++ qcL (l.drop i)) := by
 have hil : (intN l).length = l.length := by simp [intN]
 intro n
 have fin : ∀ i (b : Str), i = l.length → tloop (r1_Quote_l1T (intN l, fl)) (b, (i : Int)) = some (b ++ qcL (l.drop i)) := by
  intro i b hi
  subst hi
  rw [List.drop_length]
  refine tloop_exit ?_
  simp only [r1_Quote_l1T]
  rw [hil, ltF (Nat.le_refl _)]
  simp [cnd, qcL]
 induction n with
 | zero =>
  intro i b h1 h2 h3
  exact fin i b (by omega)
 | succ n ih =>
  intro i b h1 h2 h3
  by_cases he : i = l.length
  ·exact fin i b he
  ·have hg : l[i]? = some (l[i]'(by omega)) := List.getElem?_eq_getElem (by omega)
   generalize l[i]'(by omega) = c at hg
   have hcc := hc c (List.mem_of_getElem? hg)
   have hn : nthI (intN l) (i : Int) = some (c : Int) := by
    rw [nthI_nat]; simp [intN, hg]
   have hq : qcL (l.drop i) = qc c ++ qcL (l.drop (i + 1)) := by rw [drop_cons hg]; rfl
   have hql := qc_len c
   have next : ∀ w : Str, qc c = w → r1_Quote_l1T (intN l, fl) (b, (i : Int)) = some (.inl (b ++ w, ((i + 1 : Nat) : Int))) → tloop (r1_Quote_l1T (intN l, fl)) (b, (i : Int)) = some (b ++ qcL (l.drop i)) := by
    intro w hw hb
    rw [tloop_next hb, hq, hw, ← List.append_assoc]
    exact ih (i + 1) (b ++ w) (by omega) (by omega) (by rw [← hw]; simp; omega)
   have hb : r1_Quote_l1T (intN l, fl) (b, (i : Int)) = r1_Quote_l1T (intN l, fl) (b, (i : Int)) := rfl
   conv at hb => rhs; unfold r1_Quote_l1T
   simp only [] at hb
   rw [hil, ltT (show i < l.length by omega), hn] at hb
   simp only [cnd, bnd] at hb
   rw [wadd (by omega), show ((c : Int) == 34) = (c == 34) from ieq (n := 34), show ((c : Int) == 92) = (c == 92) from ieq (n := 92), show ((c : Int) == 10) = (c == 10) from ieq (n := 10)] at hb
   by_cases h34 : c = 34
   ·subst h34
    rw [tapp_ok (by rw [lim_val]; simp; omega)] at hb
    exact next [92, 34] rfl hb
   ·rw [beq_eq_false_iff_ne.2 h34] at hb
    simp only [] at hb
    by_cases h92 : c = 92
    ·subst h92
     rw [show tapp b ([92, 92] : Str) = some (b ++ [92, 92]) from tapp_ok (by rw [lim_val]; simp; omega)] at hb
     exact next [92, 92] rfl hb
    ·rw [beq_eq_false_iff_ne.2 h92] at hb
     simp only [] at hb
     by_cases h10 : c = 10
     ·subst h10
      rw [show tapp b ([92, 110] : Str) = some (b ++ [92, 110]) from tapp_ok (by rw [lim_val]; simp; omega)] at hb
      exact next [92, 110] rfl hb
     ·rw [beq_eq_false_iff_ne.2 h10] at hb
      simp only [] at hb
      by_cases h32 : c < 32
      ·rw [show decide ((c : Int) < 32) = true from decide_eq_true (by omega), runit_ok c (by omega)] at hb
       simp only [] at hb
       rw [show tapp b (uni c) = some (b ++ uni c) from tapp_ok (by rw [lim_val]; simp [uni]; omega)] at hb
       exact next (uni c) (by unfold qc; rw [if_neg h34, if_neg h92, if_neg h10, if_pos h32]) hb
      ·rw [show decide ((c : Int) < 32) = false from decide_eq_false (by omega)] at hb
       simp only [] at hb
       by_cases hbig : 65536 ≤ c
       ·have hc2 : c ≤ 1114111 := by unfold okC at hcc; omega
        have e1 : IntKind.wrap .i64 (55296 + (IntKind.wrap .i64 (Int.tdiv (IntKind.wrap .i64 ((c : Int) - 65536)) 1024))) = ((55296 + (c - 65536) / 1024 : Nat) : Int) := by
         rw [wi (n := (c : Int) - 65536) (by omega), show (c : Int) - 65536 = ((c - 65536 : Nat) : Int) by omega, show Int.tdiv ((c - 65536 : Nat) : Int) 1024 = (((c - 65536) / 1024 : Nat) : Int) from rfl, wn (n := (c - 65536) / 1024) (by omega), wi (by omega)]; omega
        have e2 : IntKind.wrap .i64 (56320 + (Int.tmod (IntKind.wrap .i64 ((c : Int) - 65536)) 1024)) = ((56320 + (c - 65536) % 1024 : Nat) : Int) := by
         rw [wi (n := (c : Int) - 65536) (by omega), show (c : Int) - 65536 = ((c - 65536 : Nat) : Int) by omega, show Int.tmod ((c - 65536 : Nat) : Int) 1024 = (((c - 65536) % 1024 : Nat) : Int) from rfl, wi (by omega)]; omega
        rw [show decide ((c : Int) > 65535) = true from decide_eq_true (by omega), e1, e2, runit_ok _ (by omega), runit_ok _ (by omega)] at hb
        simp only [] at hb
        rw [show tapp b (uni (55296 + (c - 65536) / 1024)) = some (b ++ uni (55296 + (c - 65536) / 1024)) from tapp_ok (by rw [lim_val]; simp [uni]; omega)] at hb
        simp only [] at hb
        rw [tapp_ok (by rw [lim_val]; simp [uni]; omega), List.append_assoc] at hb
        exact next _ (by unfold qc; rw [if_neg h34, if_neg h92, if_neg h10, if_neg h32, if_pos hbig]) hb
       ·have hpl := (encC_pos c).2
        rw [show decide ((c : Int) > 65535) = false from decide_eq_false (by omega), Put_ok c hcc] at hb
        simp only [] at hb
        rw [show tapp b (encC c) = some (b ++ encC c) from tapp_ok (by rw [lim_val]; omega)] at hb
        exact next _ (by unfold qc; rw [if_neg h34, if_neg h92, if_neg h10, if_neg h32, if_neg hbig]) hb
theorem rQuote_ok (s : Str) (hs : s.length ≤ 1048576) (h8 : ok8 s) : r1_Quote s = some (quoteS s) := by
 apply r1_Quote_run
 unfold r1_Quote_B quoteS
 rw [r1_Codes_ok s (by omega)]
 cases hl : cps s with
 | none => unfold ok8 at h8; rw [hl] at h8; cases h8
 | some l =>
  obtain ⟨_, hc, hll⟩ := enc_cps s.length s l (Nat.le_refl _) hl
  have hql := qcL_len l
  have := rquote_loop l true (by omega) hc l.length 0 [34] (by omega) (by omega) (by simp)
  rw [List.drop_zero] at this
  simp only [bnd]
  rw [show (([34] : Str), (0 : Int)) = ([34], ((0 : Nat) : Int)) from rfl, this]
  simp only []
  rw [tapp_ok (by rw [lim_val]; simp; omega)]
  rfl
def oneB (s : Str) : Bool := match s with
 | [c] => isMark c
 | _ => false
def punctB (s : Str) : Bool := s == [46, 46, 46] || oneB s
def rightB (t : GToken) : Bool :=
 if t.kind = 1 then punctB t.s else if t.kind = 2 then isName t.s else if t.kind = 3 then numI t.s == 3 else if t.kind = 4 then numI t.s == 4 else if t.kind = 5 then (cps t.s).isSome else false
theorem len1 {s : Str} (h : s.length = 1) : ∃ c, s = [c] := by
 match s, h with
 | [c], _ => exact ⟨c, rfl⟩
theorem punct_len {s : Str} (h : s.length ≠ 1) : oneB s = false := by
 match s, h with
 | [], _ => rfl
 | [c], h => exact absurd rfl h
 | _ :: _ :: _, _ => rfl
theorem Right_ok (t : GToken) (ht : t.s.length ≤ 1073741000) : to_Right t = some (rightB t) := by
 apply to_Right_run
 unfold to_Right_B rightB
 by_cases h1 : t.kind = 1
 ·rw [if_pos h1, beq_iff_eq.2 h1]
  unfold punctB
  cases hd : t.s == [46, 46, 46] with
  | true => rfl
  | false =>
   simp only [cnd, Bool.false_or]
   by_cases hl : t.s.length = 1
   ·obtain ⟨c, hc⟩ := len1 hl
    rw [hc]
    rw [show ((List.length [c] : Int) == 1) = true from rfl]
    simp only [bnd]
    have : st_Contains [33, 36, 38, 40, 41, 58, 61, 64, 91, 93, 123, 124, 125] [c] = some (isMark c) := by
     apply st_Contains_run; rfl
    rw [this]; rfl
   ·rw [punct_len hl, beq_eq_false_iff_ne.2 (show (List.length t.s : Int) ≠ 1 by omega)]
 ·rw [if_neg h1, beq_eq_false_iff_ne.2 h1]
  by_cases h2 : t.kind = 2
  ·rw [if_pos h2, beq_iff_eq.2 h2]
   simp only [cnd]
   rw [ls_Name_ok t.s (by omega)]; rfl
  ·rw [if_neg h2, beq_eq_false_iff_ne.2 h2]
   by_cases h3 : t.kind = 3
   ·rw [if_pos h3, beq_iff_eq.2 h3]
    simp only [cnd]
    rw [Number_ok t.s (by omega), h3]; rfl
   ·rw [if_neg h3, beq_eq_false_iff_ne.2 h3]
    by_cases h4 : t.kind = 4
    ·rw [if_pos h4, beq_iff_eq.2 h4]
     simp only [cnd]
     rw [Number_ok t.s (by omega), h4]; rfl
    ·rw [if_neg h4, beq_eq_false_iff_ne.2 h4]
     by_cases h5 : t.kind = 5
     ·rw [if_pos h5, beq_iff_eq.2 h5]
      simp only [cnd]
      rw [ls_Good_ok t.s (by omega)]; rfl
     ·rw [if_neg h5, beq_eq_false_iff_ne.2 h5]; rfl
theorem rRight_ok (t : GToken) (ht : t.s.length ≤ 1073741000) : r1_RightToken t = some (rightB t) := by
 apply r1_RightToken_run
 unfold r1_RightToken_B rightB
 by_cases h1 : t.kind = 1
 ·rw [if_pos h1, beq_iff_eq.2 h1]
  unfold punctB
  cases hd : t.s == [46, 46, 46] with
  | true => rfl
  | false =>
   simp only [cnd, Bool.false_or]
   by_cases hl : t.s.length = 1
   ·obtain ⟨c, hc⟩ := len1 hl
    rw [hc]
    rw [show ((List.length [c] : Int) == 1) = true from rfl, nthI_0]
    simp only [bnd]
    rw [show r1_index [33, 36, 38, 40, 41, 58, 61, 64, 91, 93, 123, 124, 125] (c.toNat : Int) = some (idxB marks c) from rindex_ok _ c (by simp)]
    rfl
   ·rw [punct_len hl, beq_eq_false_iff_ne.2 (show (List.length t.s : Int) ≠ 1 by omega)]
 ·rw [if_neg h1, beq_eq_false_iff_ne.2 h1]
  by_cases h2 : t.kind = 2
  ·rw [if_pos h2, beq_iff_eq.2 h2]
   simp only [cnd]
   rw [r1_Name_ok t.s (by omega)]; rfl
  ·rw [if_neg h2, beq_eq_false_iff_ne.2 h2]
   by_cases h3 : t.kind = 3
   ·rw [if_pos h3, beq_iff_eq.2 h3]
    simp only [cnd]
    cases hn : t.s == ([] : Str) with
    | true => rw [eq_of_beq hn]; rfl
    | false =>
     simp only [Bool.not_false]
     rw [rNumber_ok t.s (by omega), h3]; rfl
   ·rw [if_neg h3, beq_eq_false_iff_ne.2 h3]
    by_cases h4 : t.kind = 4
    ·rw [if_pos h4, beq_iff_eq.2 h4]
     simp only [cnd]
     cases hn : t.s == ([] : Str) with
     | true => rw [eq_of_beq hn]; rfl
     | false =>
      simp only [Bool.not_false]
      rw [rNumber_ok t.s (by omega), h4]; rfl
    ·rw [if_neg h4, beq_eq_false_iff_ne.2 h4]
     by_cases h5 : t.kind = 5
     ·rw [if_pos h5, beq_iff_eq.2 h5]
      simp only [cnd]
      rw [r1_Good_ok t.s (by omega)]; rfl
     ·rw [if_neg h5, beq_eq_false_iff_ne.2 h5]; rfl
def prS (t : GToken) : Str := if t.kind = 5 then quoteS t.s else t.s
def prL (l : List GToken) : Str := joinS (l.map prS) [32]
theorem joinS_le (B : Nat) : ∀ (l : List Str), (∀ x ∈ l, x.length ≤ B) → (joinS l [32]).length ≤ l.length * (B + 1)
 | [], _ => by rw [joinS_nil]; simp
 | [x], h => by rw [joinS_one]; have := h x (by simp); simp; omega
 | x :: y :: l, h => by
  have ih := joinS_le B (y :: l) (fun z hz => h z (by simp [hz]))
  have hx := h x (by simp)
  rw [joinS_cons2]
  simp only [List.length_append, List.length_cons, List.length_nil] at ih ⊢
  rw [Nat.add_mul]
  omega
theorem quoteS_len (s : Str) : (quoteS s).length ≤ 12 * s.length + 2 := by
 unfold quoteS
 cases h : cps s with
 | none => simp
 | some l =>
  have := (enc_cps s.length s l (Nat.le_refl _) h).2.2
  have := qcL_len l
  simp; omega
theorem prS_len (t : GToken) : (prS t).length ≤ 12 * t.s.length + 2 := by
 unfold prS
 split
 ·exact quoteS_len _
 ·omega
theorem right_ok8 {t : GToken} (h : rightB t = true) (hk : t.kind = 5) : ok8 t.s := by
 unfold rightB at h
 rw [hk] at h
 unfold ok8
 simpa using h
theorem drop_all {α : Type} {l : List α} {i : Nat} {x : α} (h : l[i]? = some x) (p : α → Bool) : (l.drop i).all p = (p x && (l.drop (i + 1)).all p) := by
 rw [drop_cons h]; rfl
theorem print_loop (l : List GToken) (hl : l.length ≤ 1048576) (hs : ∀ t ∈ l, t.s.length ≤ 1048576) : ∀ (n i : Nat) (out : List Str), l.length - i ≤ n → i ≤ l.length → out.length ≤ i →
  tloop (to_Print_l1T l) (out, (i : Int)) = some (if (l.drop i).all rightB then .inl (out ++ (l.drop i).map prS) else .inr ()) := by
 intro n
 have fin : ∀ i (out : List Str), i = l.length → tloop (to_Print_l1T l) (out, (i : Int)) = some (if (l.drop i).all rightB then .inl (out ++ (l.drop i).map prS) else .inr ()) := by
  intro i out hi
  subst hi
  rw [List.drop_length]
  refine tloop_exit ?_
  simp only [to_Print_l1T]
  rw [ltF (Nat.le_refl _)]
  simp [cnd]
 induction n with
 | zero =>
  intro i out h1 h2 h3
  exact fin i out (by omega)
 | succ n ih =>
  intro i out h1 h2 h3
  by_cases he : i = l.length
  ·exact fin i out he
  ·have hg : l[i]? = some (l[i]'(by omega)) := List.getElem?_eq_getElem (by omega)
   generalize l[i]'(by omega) = t at hg
   have htl := hs t (List.mem_of_getElem? hg)
   have hb : to_Print_l1T l (out, (i : Int)) = to_Print_l1T l (out, (i : Int)) := rfl
   conv at hb => rhs; unfold to_Print_l1T
   simp only [] at hb
   rw [ltT (show i < l.length by omega), nthI_nat, hg] at hb
   simp only [cnd, bnd] at hb
   rw [Right_ok t (by omega), wadd (by omega)] at hb
   simp only [] at hb
   rw [drop_all hg]
   cases hr : rightB t with
   | false =>
    rw [hr] at hb
    rw [tloop_exit hb]
    simp
   | true =>
    rw [hr] at hb
    simp only [Bool.not_true] at hb
    have st : to_Print_l1T l (out, (i : Int)) = some (.inl (out ++ [prS t], ((i + 1 : Nat) : Int))) := by
     rw [hb]
     unfold prS
     by_cases h5 : t.kind = 5
     ·rw [if_pos h5, beq_iff_eq.2 h5]
      simp only []
      rw [quote_ok t.s htl (right_ok8 hr h5)]
      simp only []
      rw [tapp_ok (by rw [lim_val]; simp; omega)]
     ·rw [if_neg h5, beq_eq_false_iff_ne.2 h5]
      simp only []
      rw [tapp_ok (by rw [lim_val]; simp; omega)]
    rw [tloop_next st, ih (i + 1) (out ++ [prS t]) (by omega) (by omega) (by simp; omega), drop_cons hg]
    simp
theorem Print_ok (l : List GToken) (hl : l.length ≤ 100000) (hs : ∀ t ∈ l, t.s.length ≤ 1048576) : to_Print l = some (if l.all rightB then (prL l, true) else ([], false)) := by
 apply to_Print_run
 unfold to_Print_B
 have := print_loop l (by omega) hs l.length 0 [] (by omega) (by omega) (by simp)
 rw [List.drop_zero] at this
 rw [show (([] : List Str), (0 : Int)) = ([], ((0 : Nat) : Int)) from rfl, this]
 simp only [bnd]
 cases l.all rightB with
 | false => rfl
 | true =>
  simp only [if_true, elim, List.nil_append]
  have hj : st_Join (l.map prS) [32] = some (prL l) := by
   apply st_Join_run
   have h1 := joinS_le 12582914 (l.map prS) (by
    intro x hx
    obtain ⟨t, ht, rfl⟩ := List.mem_map.1 hx
    have := prS_len t
    have := hs t ht
    omega)
   rw [List.length_map] at h1
   have h2 : l.length * (12582914 + 1) ≤ 100000 * (12582914 + 1) := Nat.mul_le_mul_right _ hl
   unfold tJoin prL
   rw [if_pos ⟨by rw [List.length_map]; omega, by omega⟩]
  rw [hj]
theorem rprint_loop (l : List GToken) (hl : l.length ≤ 10000) (hs : ∀ t ∈ l, t.s.length ≤ 100000) : ∀ (n i : Nat), l.length - i ≤ n → i ≤ l.length →
  tloop (r1_Print_l1T l) (prL (l.take i), (i : Int)) = some (if (l.drop i).all rightB then .inl (prL l) else .inr ()) := by
 intro n
 have fin : ∀ i, i = l.length → tloop (r1_Print_l1T l) (prL (l.take i), (i : Int)) = some (if (l.drop i).all rightB then .inl (prL l) else .inr ()) := by
  intro i hi
  subst hi
  rw [List.drop_length, List.take_length]
  refine tloop_exit ?_
  simp only [r1_Print_l1T]
  rw [ltF (Nat.le_refl _)]
  simp [cnd]
 induction n with
 | zero =>
  intro i h1 h2
  exact fin i (by omega)
 | succ n ih =>
  intro i h1 h2
  by_cases he : i = l.length
  ·exact fin i he
  ·have hg : l[i]? = some (l[i]'(by omega)) := List.getElem?_eq_getElem (by omega)
   generalize l[i]'(by omega) = t at hg
   have htl := hs t (List.mem_of_getElem? hg)
   have hpl := prS_len t
   have hlen : (prL (l.take i)).length ≤ 10000 * 1200003 := by
    have h1 := joinS_le 1200002 ((l.take i).map prS) (by
     intro x hx
     obtain ⟨u, hu, rfl⟩ := List.mem_map.1 hx
     have := prS_len u
     have := hs u (List.mem_of_mem_take hu)
     omega)
    rw [List.length_map, List.length_take] at h1
    have h2 : (min i l.length) * (1200002 + 1) ≤ 10000 * (1200002 + 1) := Nat.mul_le_mul_right _ (by omega)
    exact Nat.le_trans h1 h2
   have hb : r1_Print_l1T l (prL (l.take i), (i : Int)) = r1_Print_l1T l (prL (l.take i), (i : Int)) := rfl
   conv at hb => rhs; unfold r1_Print_l1T
   simp only [] at hb
   rw [ltT (show i < l.length by omega), nthI_nat, hg] at hb
   simp only [cnd, bnd] at hb
   rw [rRight_ok t (by omega), wadd (by omega)] at hb
   simp only [] at hb
   rw [drop_all hg]
   cases hr : rightB t with
   | false =>
    rw [hr] at hb
    rw [tloop_exit hb]
    simp
   | true =>
    rw [hr] at hb
    simp only [Bool.not_true] at hb
    have hnext : prL (l.take (i + 1)) = (if i = 0 then prS t else prL (l.take i) ++ [32] ++ prS t) := by
     have ht : l.take (i + 1) = l.take i ++ [t] := by rw [List.take_add_one, hg]; rfl
     unfold prL
     rw [ht, List.map_append]
     by_cases h0 : i = 0
     ·subst h0
      simp [joinS_one]
     ·rw [if_neg h0, List.map_cons, List.map_nil, joinS_snoc [32] (prS t) _ (by
       intro e
       have := congrArg List.length e
       rw [List.length_map, List.length_take, List.length_nil] at this
       omega)]
      simp
    have st : r1_Print_l1T l (prL (l.take i), (i : Int)) = some (.inl (prL (l.take (i + 1)), ((i + 1 : Nat) : Int))) := by
     rw [hb, hnext]
     have hps : prS t = if t.kind = 5 then quoteS t.s else t.s := rfl
     rw [hps] at hpl ⊢
     by_cases h0 : i = 0
     ·subst h0
      rw [show decide (((0 : Nat) : Int) > 0) = false from rfl, if_pos rfl]
      simp only []
      rw [show prL (l.take 0) = [] by simp [prL, joinS_nil]]
      by_cases h5 : t.kind = 5
      ·rw [if_pos h5] at hpl ⊢
       rw [beq_iff_eq.2 h5]
       simp only []
       rw [rQuote_ok t.s (by omega) (right_ok8 hr h5)]
       simp only []
       rw [tapp_ok (by rw [lim_val]; simp; omega)]
       rfl
      ·rw [if_neg h5] at hpl ⊢
       rw [beq_eq_false_iff_ne.2 h5]
       simp only []
       rw [tapp_ok (by rw [lim_val]; simp; omega)]
       rfl
     ·rw [show decide (((i : Nat) : Int) > 0) = true from decide_eq_true (by omega), if_neg h0]
      simp only []
      rw [show tapp (prL (l.take i)) ([32] : Str) = some (prL (l.take i) ++ [32]) from tapp_ok (by rw [lim_val]; simp; omega)]
      simp only []
      by_cases h5 : t.kind = 5
      ·rw [if_pos h5] at hpl ⊢
       rw [beq_iff_eq.2 h5]
       simp only []
       rw [rQuote_ok t.s (by omega) (right_ok8 hr h5)]
       simp only []
       rw [tapp_ok (by rw [lim_val]; simp; omega)]
      ·rw [if_neg h5] at hpl ⊢
       rw [beq_eq_false_iff_ne.2 h5]
       simp only []
       rw [tapp_ok (by rw [lim_val]; simp; omega)]
    rw [tloop_next st, ih (i + 1) (by omega) (by omega)]
    simp
theorem rPrint_ok (l : List GToken) (hl : l.length ≤ 10000) (hs : ∀ t ∈ l, t.s.length ≤ 100000) : r1_Print l = some (if l.all rightB then (prL l, true) else ([], false)) := by
 apply r1_Print_run
 unfold r1_Print_B
 have := rprint_loop l hl hs l.length 0 (by omega) (by omega)
 rw [List.drop_zero, show prL (l.take 0) = [] by simp [prL, joinS_nil]] at this
 rw [show (([] : Str), (0 : Int)) = ([], ((0 : Nat) : Int)) from rfl, this]
 simp only [bnd]
 cases l.all rightB <;> rfl
def wT (l : List GToken) : Nat := sumL (fun t : GToken => 1 + t.s.length) l
theorem wT_snoc (t : GToken) : ∀ (l : List GToken), wT (l ++ [t]) = wT l + (1 + t.s.length)
 | [] => by simp [wT, sumL]
 | x :: l => by
  have := wT_snoc t l
  unfold wT at this ⊢
  simp only [List.cons_append, sumL] at this ⊢
  omega
theorem short_ok (l : List GToken) (hl : l.length ≤ 1048576) (hs : ∀ t ∈ l, t.s.length ≤ 1048576) : ∃ b, s3_short l = some b ∧ (b = true → l.length ≤ 3000 ∧ ∀ t ∈ l, t.s.length ≤ 3000) := by
 have key : ∃ r, tloop (s3_short_l1T l) (0, 0) = some r ∧ (r ≤ 3000 → wT l ≤ 3000) := by
  refine tloop_inv (b := s3_short_l1T l) (fun st : Int × Int => ∃ k : Nat, st.2 = k ∧ k ≤ l.length ∧ st.1 = (wT (l.take k) : Nat)) (fun st => l.length - st.2.toNat) (fun r : Int => r ≤ 3000 → wT l ≤ 3000) ?_ _ ⟨0, rfl, by omega, rfl⟩
  rintro ⟨n, i⟩ ⟨k, hi, hk, hn⟩
  simp only at hi hn
  subst hi hn
  simp only [s3_short_l1T]
  by_cases he : k = l.length
  ·left
   subst he
   rw [ltF (Nat.le_refl _)]
   refine ⟨_, rfl, ?_⟩
   rw [List.take_length]
   intro h; omega
  ·rw [ltT (by omega)]
   simp only [cnd]
   by_cases hb : wT (l.take k) ≤ 3000
   ·right
    have hg : l[k]? = some (l[k]'(by omega)) := List.getElem?_eq_getElem (by omega)
    generalize l[k]'(by omega) = t at hg
    have htl := hs t (List.mem_of_getElem? hg)
    rw [show decide (((wT (l.take k) : Nat) : Int) ≤ 3000) = true from decide_eq_true (by omega), nthI_nat, hg]
    simp only [bnd]
    rw [wadd (by omega), wadd2 (by omega), wadd (by omega)]
    refine ⟨_, rfl, ⟨k + 1, rfl, by omega, ?_⟩, ?_⟩
    ·rw [List.take_add_one, hg, show (some t : Option GToken).toList = [t] from rfl, wT_snoc]
     show ((wT (l.take k) + 1 + t.s.length : Nat) : Int) = _
     omega
    ·show l.length - (((k + 1 : Nat) : Int)).toNat < l.length - ((k : Int)).toNat
     omega
   ·left
    rw [show decide (((wT (l.take k) : Nat) : Int) ≤ 3000) = false from decide_eq_false (by omega)]
    refine ⟨_, rfl, ?_⟩
    intro h; omega
 obtain ⟨r, hr, hq⟩ := key
 refine ⟨decide (r ≤ 3000), ?_, ?_⟩
 ·apply s3_short_run
  unfold s3_short_B
  rw [hr]; rfl
 ·intro h
  have hw := hq (of_decide_eq_true h)
  unfold wT at hw
  refine ⟨Nat.le_trans (sumL_len _ (fun t => by omega) l) hw, fun t ht => ?_⟩
  have := sumL_mem (fun t : GToken => 1 + t.s.length) ht
  omega
theorem Tokens_keep (l : List GToken) (hl : l.length ≤ 1073741824) : seinekeep_Tokens l = some (l, [GToken.mk 77 []]) := by
 apply seinekeep_Tokens_run
 simp only [seinekeep_Tokens_B, wadd (show l.length < 9223372036854775807 by omega)]
 rw [tmk_ok (by rw [lim_val]; omega), bnd_s, tapp_ok (by rw [lim_val]; simp; omega), bnd_s, List.nil_append, tapp_ok (by rw [lim_val]; simp; omega), bnd_s, tslb_ok (by simp; omega), bnd_s]
 simp
theorem TokensStay_ok (l : List GToken) (hl : l.length ≤ 1073741824) : seinekeep_TokensStay l [GToken.mk 77 []] l = some true := by
 apply seinekeep_TokensStay_run
 have hlp : tloop (seinekeep_TokensStay_l1T l l) 0 = some (.inl () : Unit ⊕ Unit) := by
  refine loop_all (b := seinekeep_TokensStay_l1T l l) l (.inl ()) (by omega) ?_ ?_
  ·simp only [seinekeep_TokensStay_l1T]
   rw [ltF (Nat.le_refl _)]; rfl
  ·intro k x hx h1 h2 h3
   simp only [seinekeep_TokensStay_l1T]
   rw [h1, h2, h3]
   simp [cnd, bnd]
 simp only [seinekeep_TokensStay_B, wadd (show l.length < 9223372036854775807 by omega), hlp]
 rw [show ((List.length l : Int) != (List.length l : Int)) = false by simp]
 simp only [cnd]
 rw [tslb_ok (by simp; omega), bnd_s, nthI_nat]
 have : ((l ++ [GToken.mk 77 []]).take (((l.length + 1 : Nat) : Int).toNat)).drop (0 : Int).toNat = l ++ [GToken.mk 77 []] := by simp only [Int.toNat_natCast, Int.toNat_zero, List.drop_zero]; exact List.take_of_length_le (by simp)
 simp only [this]
 rw [List.getElem?_append_right (Nat.le_refl _)]
 simp [bnd]
theorem TokenPrints_ok (l : List GToken) (hl : l.length ≤ 1048576) (hs : ∀ t ∈ l, t.s.length ≤ 1048576) : s3_TokenPrints l = some true := by
 apply s3_TokenPrints_run
 unfold s3_TokenPrints_B
 obtain ⟨b, hb, hq⟩ := short_ok l hl hs
 rw [hb, awake3_ok]
 cases b with
 | false => rfl
 | true =>
  obtain ⟨h1, h2⟩ := hq rfl
  simp only [bnd, Bool.not_true, cnd]
  rw [Tokens_keep l (by omega)]
  simp only []
  rw [Print_ok l (by omega) hs, rPrint_ok l (by omega) (fun t ht => by have := h2 t ht; omega)]
  have hlp : tloop (s3_TokenPrints_l1T l) 0 = some (.inl () : Unit ⊕ Unit) := by
   refine loop_all (b := s3_TokenPrints_l1T l) l (.inl ()) (by omega) ?_ ?_
   ·simp only [s3_TokenPrints_l1T]
    rw [ltF (Nat.le_refl _)]; rfl
   ·intro k x hx e1 e2 e3
    have := h2 x hx
    simp only [s3_TokenPrints_l1T]
    rw [e1, e2, e3]
    simp only [cnd, bnd]
    rw [Right_ok x (by omega), rRight_ok x (by omega)]
    simp
  rw [hlp]
  simp only [elim]
  rw [show ∀ x : Str × Bool, (x.1 == x.1) = true from fun x => beq_self_eq_true _, show ∀ x : Str × Bool, (x.2 == x.2) = true from fun x => beq_self_eq_true _, TokensStay_ok l (by omega)]
theorem toks_small {l : List GToken} (h : bkSl bkToken l + 0 ≤ 1048576) : l.length ≤ 1048576 ∧ ∀ t ∈ l, t.s.length ≤ 1048576 := by
 have h1 := sl_len (f := bkToken) (fun x => by unfold bkToken; omega) l
 refine ⟨by omega, fun t ht => ?_⟩
 have h2 := sl_mem (f := bkToken) ht
 have h3 : t.s.length ≤ bkToken t := by unfold bkToken bkStr; omega
 omega
open Go.ChangeShapes Go.WideShapes Go.ChangeAt Go.RowKit
theorem mixed : Tryd.prog.follows .mixedOrders = true := by kernel_rfl
theorem names : (Tryd.prog.funcs.toList.all fun fn => !fn.body.isSome || !(fn.name == "runtime.NumGoroutine")) = true := by kernel_rfl
theorem laid : laidOutB Tryd.prog = true := by kernel_rfl
theorem pok : POk Tryd.prog := by
 refine ⟨mixed, fun f fn hf hb => ?_⟩
 have hm : fn ∈ Tryd.prog.funcs.toList := by
  have := Array.mem_of_getElem? hf
  simpa using this
 have := List.all_eq_true.1 names fn hm
 rw [hb] at this
 simpa using this
theorem blOk {H : Type} : BlOk (H := H) Rows.uptoBulk Rows.uptoBulkAll := by
 refine ⟨fun l => ?_, fun s => ?_, ?_, fun es sp => ?_, fun ps => ?_, fun d r => ?_⟩
 ·cases l <;> simp [Rows.uptoBulk]
 ·simp [Rows.uptoBulk]
 ·simp [Rows.uptoBulk]
 ·simp only [Rows.uptoBulk]; omega
 ·simp only [Rows.uptoBulk]; omega
 ·simp [Rows.uptoBulkAll]
theorem own : ownKnob Tryd.prog.godebug = none := by kernel_rfl
theorem firstE : (Rows.laid_unicode_utf8_first : DataW Unit) = Go.Lib.firstData := by kernel_rfl
theorem acceptE : (Rows.laid_unicode_utf8_acceptRanges : DataW Unit) = Go.Lib.acceptData := by kernel_rfl
def laidList : List (String × DataW Unit) := Rows.tokenPrintsUptoRow.laid
theorem tabsOf {W : World} (h : laidMetH Tryd.prog laidList W) : Go.Lib.Utf8Tabs 0 1 W := by
 have h3 := Go.Lib.laidMet.reads h (.tail _ (.head _))
 have h4 := Go.Lib.laidMet.reads h (.head _)
 rw [firstE] at h3
 rw [acceptE] at h4
 exact utf8Tabs_of_readsT (ρ := Tryd.lays196_ren) (U8Types.of196 Tryd.lays196) ⟨by kernel_rfl, by kernel_rfl, by kernel_rfl, by kernel_rfl, by kernel_rfl, by kernel_rfl, by kernel_rfl⟩ h3 h4
theorem gmOf {W : World} (h : laidMetH Tryd.prog laidList W) : ∀ b i v, GM b i = some v → memW W b i = some v := by
 obtain ⟨t1, t2⟩ := tabsOf h
 intro b i v hv
 unfold GM at hv
 split at hv
 ·rename_i hb; subst hb
  split at hv
  ·rename_i hi; cases hv; exact (cell_mem (t1 i hi)).2
  ·simp at hv
 ·split at hv
  ·rename_i hb; subst hb
   split at hv
   ·rename_i hi
    cases hv
    obtain ⟨e1, e2⟩ := t2 (i / 2) (by omega)
    split
    ·rename_i he
     rw [show 2 * (i / 2) = i by omega] at e1
     exact (cell_mem e1).2
    ·rename_i he
     rw [show 2 * (i / 2) + 1 = i by omega] at e2
     exact (cell_mem e2).2
   ·simp at hv
  ·simp at hv
noncomputable def laidWorld (os : Os) : World :=
 let w0 := World.holding Tryd.prog os ⟨#[], #[], []⟩
 let put (h : Array Obj) (g : Nat) (cs : Array Value) : Array Obj := h.modify g fun
  | .cells _ t frozen => .cells cs t frozen
  | o => o
 let h1 := put w0.heap 0 (Go.Lib.firstTab.map fun z => Value.int .u8 z).toArray
 let h2 := put h1 1 ((List.range 16).flatMap fun i => [Value.int .u8 (Go.Lib.accLo i), Value.int .u8 (Go.Lib.accHi i)]).toArray
 { w0 with heap := h2 }
namespace tokenPrints
def fs : Ty := (.fcons (.sl (.ext 0)) .fnil)
theorem lawF : ∀ x : fs.den RS, good RS fs x → bulkL RS fs x ≤ 1048576 → OL Tryd.prog MT XT 8 (encL RS fs x) [] = some (.bool true, []) := by
 rintro ⟨x0, _⟩ g b
 have b' : (bkSl bkToken) x0 + (0) ≤ 1048576 := b
 obtain ⟨g0, _⟩ := g
 have g0' : (gdSl gdToken) x0 := g0
 have e : encL RS fs (x0, ()) = [.slice (List.map encToken x0) [] false] := rfl
 rw [e]
 change O 8 _ _ = _
 have h := s3_TokenPrints_spec (TokenPrints_ok x0 (toks_small b').1 (toks_small b').2)
 simpa only [tys, s3_TokenPrintsE] using h
set_option maxRecDepth 100000 in
theorem contract (H : Type) (enc : TypeId × Value → H) (W : World) (base : Nat) (args : Array Value) (ds gs : List (DataW H)) (before : List MemPlace)
  (hval : ∀ (j : Nat) t v, Tryd.f8.params[j]? = some t → args[j]? = some v → Value.okWide Tryd.prog W .any base t v)
  (hW : DataW.Whole enc Tryd.prog Tryd.f8.params.toList Rows.tokenPrintsSpec.vars false W args.toList ds gs before) (hk : Rows.uptoSmall H (ds ++ gs) = true) (hL : laidMetH Tryd.prog laidList W) :
  Calls Tryd.prog 8 args W fun e W' => ∃ v, e = .returned v ∧ Rows.tokenPrintsSpec.post enc Tryd.prog Tryd.f8 false true false false W args v W' := by
 have hg : gs = [] := by
  obtain ⟨p, q, hA, hV, _⟩ := hW
  exact (trodVars_none hV).1
 have hb : Rows.uptoBulkAll ds ≤ 1048576 := by
  have := of_decide_eq_true hk
  simpa [hg] using this
 have hlen : ds.length = 1 := by
  obtain ⟨p, q, hA0, hV, _⟩ := hW
  have hA : DataW.TrodAll enc Tryd.prog W 0 (fun _ => true) true Tryd.f8.params.toList args.toList ds p := hA0
  rw [Tryd.params8] at hA
  obtain ⟨v0, vs0, d0, ds0, p0, q0, h0, rfl, rfl, ht0, r0⟩ := trodAll_cons hA
  obtain ⟨rfl, rfl, rfl⟩ := trodAll_nil r0
  rfl
 refine contract_glob (G := GM) pok xok laid blOk Tryd.func8 rfl (n := 9) (ρ := RS) (τ := TS) (fs := fs) (tb := 4) (by kernel_rfl) (by rw [show Tryd.f8.resultTypes = #[4] from rfl]) Tryd.underlying4 rfl (gmOf hL) (rok enc W blOk) ?_ hval hW hb lawF
 subst hg
 match ds, hlen with
 | [d0], _ => exact ⟨rfl, rfl, rfl⟩
theorem laid_met (os : Os) : laidMet Tryd.prog Rows.tokenPrintsUptoRow.laid ((laidWorld os).forCall (fun _ _ => 0) ⟨#[], #[.slice none 0 0], []⟩).memory :=
 laidMet_of_run' 8 (by kernel_rfl) (by kernel_rfl)
theorem reads (os : Os) {H : Type} (enc : TypeId × Value → H) : ∃ places, DataW.whole enc Tryd.prog ((laidWorld os).forCall (fun _ _ => 0) ⟨#[], #[.slice none 0 0], []⟩).memory Tryd.f8.params.toList Rows.tokenPrintsSpec.vars false (#[.slice none 0 0] : Array Value).toList 8 = some ([.nil], [], places) :=
 ⟨[], by kernel_rfl⟩
set_option maxRecDepth 100000 in
theorem lifted (os : Os) (started : os.Started) (H : Type) (enc : TypeId × Value → H) (F : Stop.Interp) :
  ReturnsInHanded {} Tryd.checked os 8 .any ((Rows.OpenSpec.upto Rows.tokenPrintsSpec).preRow enc Tryd.prog Tryd.f8 Rows.tokenPrintsUptoRow.domain false Rows.tokenPrintsUptoRow.laid) (((Rows.OpenSpec.upto Rows.tokenPrintsSpec).at F).post enc Tryd.prog Tryd.f8 false true false false) := by
 obtain ⟨places, hx⟩ := reads os enc
 refine returnsInHanded_of_row (C := Tryd.checked) (s := Rows.OpenSpec.upto Rows.tokenPrintsSpec) own started (by kernel_rfl) Tryd.func8
  (witness_row_at (enc := enc) (C := Tryd.checked) false (laidWorld os) #[.slice none 0 0] rfl (by kernel_rfl) (by kernel_rfl) (by kernel_rfl)
   (OpenSpec.preRow_of_cond 8 hx (by kernel_rfl) (fun k hk => by cases hk; kernel_rfl) (by kernel_rfl) (laid_met os))) ?_
 intro W base args ds gs before hval hW _ hcond _ hL _ _
 exact contract H enc W base args ds gs before hval hW (hcond _ rfl) hL
theorem over : Rows.tokenPrintsUptoRow.holds Tryd.pinned (Rows.OpenSpec.upto Rows.tokenPrintsSpec) :=
 OpenClaim.holds_of_cond 8 Tryd.f8 rfl rfl rfl rfl rfl rfl rfl ⟨rfl, rfl, rfl, rfl, rfl⟩ rfl rfl rfl rfl rfl (by kernel_rfl) Tryd.func8 (by kernel_rfl)
  (of_decide_eq_true (by kernel_rfl)) (by unfold Func.isWrapper; first | (rw [if_pos (by decide +kernel)]; kernel_rfl) | (rw [if_neg (by decide +kernel)]; exact ⟨rfl, rfl⟩))
  (fun os started H enc _ F => by rw [OpenClaim.pre_eq_preRow]; exact lifted os started H enc F)
theorem plain (f : FuncId) (fn : Func) (hf : Tryd.pinned.checked.prog.funcNamed Rows.tokenPrintsUptoRow.func = some f) (hfn : Tryd.pinned.checked.prog.funcs[f]? = some fn) :
  false = Tryd.pinned.checked.prog.looks [] ∧ ∀ (j : Nat) t, fn.params[j]? = some t → Tryd.pinned.checked.prog.wantsStandIn t = false := by
 obtain rfl : f = 8 := Option.some.inj ((show Tryd.prog.funcNamed Rows.tokenPrintsUptoRow.func = some 8 by kernel_rfl).symm.trans hf) |>.symm
 obtain rfl : fn = Tryd.f8 := (Option.some.inj (Tryd.func8.symm.trans hfn)).symm
 refine ⟨by kernel_rfl, fun j t ht => ?_⟩
 have all : (Tryd.f8.params.toList.all fun t => !Tryd.prog.wantsStandIn t) = true := by kernel_rfl
 have hm : t ∈ Tryd.f8.params.toList := by
  have := Array.mem_of_getElem? ht
  simpa using this
 have := List.all_eq_true.1 all t hm
 exact (show Tryd.prog.wantsStandIn t = false by simpa using this)
theorem proved : Rows.TokenPrintsUptoCardSaid :=
 Claim7.holds_tied_plain_at .later [] _ _ _ _ over (fun _ h => by cases h) (by kernel_rfl) (fun _ h => by cases h) tokenPrintsUpto_row_tie rfl ⟨rfl, rfl⟩ (by kernel_rfl) rfl plain (by kernel_rfl)
end tokenPrints
end Go.Proofs.YtafndpggajdmiaaDoor
