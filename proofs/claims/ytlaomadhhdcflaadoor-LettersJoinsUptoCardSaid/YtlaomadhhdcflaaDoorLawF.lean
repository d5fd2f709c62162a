/-
  LettersJoins: of any units: the text that they are together, or that they are none, is the page's; they stay as they were. Conditions: the row's own (bulk at most 1048576; utf8's two tables hold what their initialisers lay, which the card ties to the program's text).
-/
import Derived.Test.YtlaomadhhdcflaaDoorJGb
import Derived.Test.YtlaomadhhdcflaaDoorJEd
import Derived.KernelRfl
import Derived.Test.YtlaomadhhdcflaaDoorJGa
import Derived.Deep.DeepHandedRow
import Derived.Lib.LaidTab
import Derived.Lib.LaidU8T
import Derived.Test.YtlaomadhhdcflaaDoorRows
import Derived.WalkKit
import Derived.ProofKit
import Derived.OpenShut
import Derived.JoinedCond
import Derived.Test.YtlaomadhhdcflaaDoorCards
import Derived.Test.YtlaomadhhdcflaaDoorTie
set_option linter.unusedVariables false
set_option linter.unusedSimpArgs false
/-
  Names: the program's and the reference's are alike.
-/
set_option linter.unusedVariables false
set_option linter.unusedSimpArgs false
open Go Go.Ev
namespace Go.Proofs.YtlaomadhhdcflaaDoor

def letter (c : Int) : Bool := (decide (97 ≤ c) && decide (c ≤ 122)) || ((decide (65 ≤ c) && decide (c ≤ 90)) || c == 95)
def digit (c : Int) : Bool := decide (48 ≤ c) && decide (c ≤ 57)
/-- All of these may stand behind a name's first sign. -/
def inName (c : UInt8) : Bool := letter c.toNat || digit c.toNat
def isName : Str → Bool
  | [] => false
  | c :: s => letter c.toNat && s.all inName
end Go.Proofs.YtlaomadhhdcflaaDoor

/-
  Layer 1: code points, units, what a document may have: of the typed functions.
-/
set_option linter.unusedVariables false
set_option linter.unusedSimpArgs false
open Go Go.Ev
namespace Go.Proofs.YtlaomadhhdcflaaDoor

/-! the reference's decoder -/
theorem w32 {n : Int} (h : 0 ≤ n ∧ n < 2147483648) : IntKind.wrap .i32 n = n := by rw [IntKind.wrap_i32]; omega
theorem and63 : ∀ x : Fin 256, bits .and .i64 (x.val : Int) 63 = ((x.val % 64 : Nat) : Int) := by decide +kernel
theorem and31 : ∀ x : Fin 256, bits .and .i64 (x.val : Int) 31 = ((x.val % 32 : Nat) : Int) := by decide +kernel
theorem and15 : ∀ x : Fin 256, bits .and .i64 (x.val : Int) 15 = ((x.val % 16 : Nat) : Int) := by decide +kernel
theorem and7 : ∀ x : Fin 256, bits .and .i64 (x.val : Int) 7 = ((x.val % 8 : Nat) : Int) := by decide +kernel
theorem or_low {c x : Nat} (hc : c < 1073741824) (hx : x < 64) : bits .or .i64 ((c * 64 : Nat) : Int) (x : Int) = ((c * 64 + x : Nat) : Int) := by
  have h0 : bits .or .i64 ((c * 64 : Nat) : Int) (x : Int) = IntKind.wrap .i64 ((BitVec.ofInt 64 ((c * 64 : Nat) : Int) ||| BitVec.ofInt 64 (x : Int)).toNat : Int) := rfl
  have h1 : (BitVec.ofInt 64 ((c * 64 : Nat) : Int) ||| BitVec.ofInt 64 (x : Int)).toNat = c * 64 + x := by
    rw [BitVec.ofInt_natCast, BitVec.ofInt_natCast, BitVec.toNat_or, BitVec.toNat_ofNat, BitVec.toNat_ofNat, Nat.mod_eq_of_lt (by omega), Nat.mod_eq_of_lt (by omega)]
    have := Nat.two_pow_add_eq_or_of_lt (i := 6) (b := x) (by omega) c
    rw [show c * 64 = 2 ^ 6 * c by omega, ← this]
  rw [h0, h1]
  exact wn (by omega)
/-- One byte more. -/
theorem more6 {c : Nat} (hc : c < 1048576) (x : UInt8) : bits .or .i64 (IntKind.wrap .i64 ((c : Int) * 2 ^ min (Int.toNat 6) 64)) (bits .and .i64 (IntKind.wrap .i64 (x.toNat : Int)) 63) = ((c * 64 + x.toNat % 64 : Nat) : Int) := by
  have hx : x.toNat < 256 := UInt8.toNat_lt _
  rw [wn (show x.toNat ≤ _ by omega), and63 ⟨x.toNat, hx⟩]
  have e : ((c : Int) * 2 ^ min (Int.toNat 6) 64) = ((c * 64 : Nat) : Int) := by
    rw [show (2 : Int) ^ min (Int.toNat 6) 64 = 64 from rfl]; omega
  rw [e, wn (by omega)]
  exact or_low (by omega) (by omega)
theorem dN2 {n x0 x1 x2 x3 : Nat} (h0 : 128 ≤ x0) (h : x0 < 224) (h1 : x1 < 256) : Go.Lib.decodeN n x0 x1 x2 x3 = if 194 ≤ x0 ∧ 1 < n ∧ 128 ≤ x1 ∧ x1 ≤ 191 then (x0 % 32 * 64 + x1 % 64, 2) else (65533, 1) := by
  unfold Go.Lib.decodeN
  rw [if_neg (by omega)]
  by_cases c : x0 / 32 = 6 ∧ (1 < n ∧ x1 / 64 = 2)
  · rw [if_pos c]
    split
    · rw [if_pos (by omega)]
    · rw [if_neg (by omega)]
  · rw [if_neg c, if_neg (by omega), if_neg (by omega), if_neg (by omega)]
theorem dN3 {n x0 x1 x2 x3 : Nat} (h0 : 224 ≤ x0) (h : x0 < 240) (h1 : x1 < 256) (h2 : x2 < 256) : Go.Lib.decodeN n x0 x1 x2 x3 = if (1 < n ∧ 128 ≤ x1 ∧ x1 ≤ 191) ∧ (2 < n ∧ 128 ≤ x2 ∧ x2 ≤ 191) ∧ 2048 ≤ x0 % 16 * 4096 + x1 % 64 * 64 + x2 % 64 ∧ (x0 % 16 * 4096 + x1 % 64 * 64 + x2 % 64 < 55296 ∨ 57344 ≤ x0 % 16 * 4096 + x1 % 64 * 64 + x2 % 64) then (x0 % 16 * 4096 + x1 % 64 * 64 + x2 % 64, 3) else (65533, 1) := by
  unfold Go.Lib.decodeN
  rw [if_neg (by omega), if_neg (by omega)]
  by_cases c : x0 / 16 = 14 ∧ (1 < n ∧ x1 / 64 = 2) ∧ (2 < n ∧ x2 / 64 = 2)
  · rw [if_pos c]
    split
    · rw [if_pos (by omega)]
    · rw [if_neg (by omega)]
  · rw [if_neg c, if_neg (by omega), if_neg (by omega)]
theorem dN4 {n x0 x1 x2 x3 : Nat} (h0 : 240 ≤ x0) (h : x0 < 256) (h1 : x1 < 256) (h2 : x2 < 256) (h3 : x3 < 256) : Go.Lib.decodeN n x0 x1 x2 x3 = if x0 < 245 ∧ (1 < n ∧ 128 ≤ x1 ∧ x1 ≤ 191) ∧ (2 < n ∧ 128 ≤ x2 ∧ x2 ≤ 191) ∧ (3 < n ∧ 128 ≤ x3 ∧ x3 ≤ 191) ∧ 65536 ≤ x0 % 8 * 262144 + x1 % 64 * 4096 + x2 % 64 * 64 + x3 % 64 ∧ x0 % 8 * 262144 + x1 % 64 * 4096 + x2 % 64 * 64 + x3 % 64 ≤ 1114111 then (x0 % 8 * 262144 + x1 % 64 * 4096 + x2 % 64 * 64 + x3 % 64, 4) else (65533, 1) := by
  unfold Go.Lib.decodeN
  rw [if_neg (by omega), if_neg (by omega), if_neg (by omega)]
  by_cases c : x0 / 8 = 30 ∧ (1 < n ∧ x1 / 64 = 2) ∧ (2 < n ∧ x2 / 64 = 2) ∧ (3 < n ∧ x3 / 64 = 2)
  · rw [if_pos c]
    split
    · rw [if_pos (by omega)]
    · rw [if_neg (by omega)]
  · rw [if_neg c, if_neg (by omega)]
def codeI (s : Str) : Int × Int := match decR s with
  | some (c, k) => ((c : Int), (k : Int))
  | none => (0, 0)
theorem codeI_of {s : Str} (hne : s ≠ []) {d : Nat × Nat} (h : decS s = d) : codeI s = if d.1 = 65533 ∧ d.2 = 1 then (0, 0) else ((d.1 : Int), (d.2 : Int)) := by
  unfold codeI decR
  rw [if_neg hne, h]
  split
  · rename_i c k he
    split at he
    · simp at he
    · rename_i hb
      rw [if_neg hb]; simp only [Option.some.injEq] at he; rw [he]
  · rename_i he
    split at he
    · rename_i hb; rw [if_pos hb]
    · simp at he
theorem decS_pos {s : Str} (hne : s ≠ []) : 1 ≤ (decS s).2 := by
  rw [decR_decodeN hne]
  unfold Go.Lib.decodeN
  repeat' split
  all_goals simp
theorem decS_small {s : Str} (hne : s ≠ []) : (decS s).1 ≤ 1114111 ∧ (decS s).2 ≤ 4 := by
  rw [decR_decodeN hne]
  have b0 : (s.getD 0 0).toNat < 256 := UInt8.toNat_lt _
  unfold Go.Lib.decodeN
  repeat' split
  all_goals (constructor <;> simp only <;> omega)
theorem tslc_dropI {α : Type} (l : List α) (k : Nat) (h : k ≤ l.length) : tslc l (k : Int) (l.length : Int) = some (l.drop k) := by
  unfold tslc
  simp; omega
theorem drop_ne {s : Str} {i : Nat} (h : i < s.length) : s.drop i ≠ [] := by
  intro e; have := congrArg List.length e; simp at this; omega
/-- A loop over the bytes behind the first one. -/
theorem tail_loop {b : (Int × Int) → Option ((Int × Int) ⊕ (Int ⊕ Unit))} (s : Str) (i n : Nat) (hs : s.length ≤ 1073741824) (hn : i + n ≤ s.length)
    (hb : ∀ (c : Nat) (k : Nat), c < 1048576 → b ((c : Int), (k : Int)) = cnd (decide ((k : Int) < (n : Int)))
      (bnd (nthI s (IntKind.wrap .i64 ((i : Int) + (k : Int)))) fun y9 =>
        cnd (decide ((IntKind.wrap .i64 (y9.toNat : Int)) < 128)) (some (.inr (.inr ())))
          (cnd (decide ((IntKind.wrap .i64 (y9.toNat : Int)) > 191)) (some (.inr (.inr ())))
            (some (.inl ((bits .or .i64 (IntKind.wrap .i64 ((c : Int) * 2 ^ min (Int.toNat 6) 64)) (bits .and .i64 (IntKind.wrap .i64 (y9.toNat : Int)) 63)), (IntKind.wrap .i64 ((k : Int) + 1)))))))
      (some (.inr (.inl (c : Int))))) (c k : Nat) (hc : c < 1048576) :
    (k < n → ∀ x, s[i + k]? = some x → (x.toNat < 128 ∨ 191 < x.toNat → tloop b ((c : Int), (k : Int)) = some (.inr ())) ∧ (128 ≤ x.toNat ∧ x.toNat ≤ 191 → tloop b ((c : Int), (k : Int)) = tloop b (((c * 64 + x.toNat % 64 : Nat) : Int), ((k + 1 : Nat) : Int)))) ∧
    (k = n → tloop b ((c : Int), (k : Int)) = some (.inl (c : Int))) := by
  constructor
  · intro hk x hx
    have hxl : x.toNat < 256 := UInt8.toNat_lt _
    have h0 := hb c k hc
    have d0 : decide ((k : Int) < (n : Int)) = true := by simp; omega
    have e1 : IntKind.wrap .i64 ((i : Int) + (k : Int)) = ((i + k : Nat) : Int) := by rw [wi (by omega)]; omega
    have e2 : nthI s ((i + k : Nat) : Int) = some x := by rw [nthI_nat]; exact hx
    have e3 : IntKind.wrap .i64 (x.toNat : Int) = (x.toNat : Int) := wn (by omega)
    have e4 := more6 hc x
    rw [e3] at e4
    rw [d0, e1, e2] at h0
    simp only [cnd_t, bnd_s, e3, e4, wadd (show k < 9223372036854775807 by omega)] at h0
    constructor
    · intro hbad
      by_cases hl : x.toNat < 128
      · have d1 : decide ((x.toNat : Int) < 128) = true := by simp; omega
        rw [d1] at h0
        exact tloop_exit h0
      · have d1 : decide ((x.toNat : Int) < 128) = false := by simp; omega
        have d2 : decide ((x.toNat : Int) > 191) = true := by simp; omega
        rw [d1, d2] at h0
        exact tloop_exit h0
    · intro hg
      have d1 : decide ((x.toNat : Int) < 128) = false := by simp; omega
      have d2 : decide ((x.toNat : Int) > 191) = false := by simp; omega
      rw [d1, d2] at h0
      exact tloop_next h0
  · rintro rfl
    have h0 := hb c k hc
    rw [end_lt] at h0
    exact tloop_exit h0
end Go.Proofs.YtlaomadhhdcflaaDoor

/-
  Layer 1: loops over code points; the statements, of the typed functions.
-/
set_option linter.unusedVariables false
set_option linter.unusedSimpArgs false
open Go Go.Ev
namespace Go.Proofs.YtlaomadhhdcflaaDoor

/-- Code points as the model's numbers. -/
def intN (l : List Nat) : List Int := l.map fun n : Nat => (n : Int)
theorem codeI_none {s : Str} (h : decR s = none) : codeI s = (0, 0) := by unfold codeI; rw [h]
theorem codeI_some {s : Str} {c k : Nat} (h : decR s = some (c, k)) : codeI s = ((c : Int), (k : Int)) := by unfold codeI; rw [h]
theorem okC_le {c : Nat} (h : okC c) : c ≤ 1114111 := by unfold okC at h; omega
/-- A loop over code points, and what is made of them. -/
theorem cp_loop {β ρ : Type} {b : (β × Int) → Option ((β × Int) ⊕ ρ)} (s : Str) (hs : s.length ≤ 1073741824) (g : β → Nat → β) (F : Option (List Nat) → β → ρ) (I : Nat → β → Prop)
    (hend : ∀ a, I s.length a → b (a, (s.length : Int)) = some (.inr (F (some []) a)))
    (hbad : ∀ (i : Nat) a, i < s.length → I i a → decR (s.drop i) = none → b (a, (i : Int)) = some (.inr (F none a)))
    (hcons : ∀ (i : Nat) a (c k : Nat), i < s.length → I i a → decR (s.drop i) = some (c, k) → i + k ≤ s.length → okC c → 1 ≤ k → k ≤ 4 → (b (a, (i : Int)) = some (.inl (g a c, ((i + k : Nat) : Int))) ∧ I (i + k) (g a c) ∧ ∀ r : Option (List Nat), F (r.map (c :: ·)) a = F r (g a c)) ∨ ∀ r : Option (List Nat), b (a, (i : Int)) = some (.inr (F (r.map (c :: ·)) a))) :
    ∀ (i : Nat) a, i ≤ s.length → I i a → tloop b (a, (i : Int)) = some (F (cps (s.drop i)) a) := by
  have key : ∀ (n i : Nat) a, s.length - i ≤ n → i ≤ s.length → I i a → tloop b (a, (i : Int)) = some (F (cps (s.drop i)) a) := by
    intro n
    induction n with
    | zero =>
      intro i a h1 h2 hI
      have : i = s.length := by omega
      subst this
      rw [tloop_exit (hend a hI), List.drop_length, cps_nil]
    | succ n ih =>
      intro i a h1 h2 hI
      by_cases hi : i = s.length
      · subst hi
        rw [tloop_exit (hend a hI), List.drop_length, cps_nil]
      · have hlt : i < s.length := by omega
        cases hd : decR (s.drop i) with
        | none => rw [tloop_exit (hbad i a hlt hI hd), cps_none (drop_ne hlt) hd]
        | some x =>
          obtain ⟨c, k⟩ := x
          obtain ⟨h3, h4, h5, h6, h7, h8⟩ := decR_some hd
          rw [List.length_drop] at h8
          rw [cps_some hd, List.drop_drop]
          rcases hcons i a c k hlt hI hd (by omega) h3 h6 h7 with ⟨hb, hI', hF⟩ | hb
          · rw [tloop_next hb, ih (i + k) _ (by omega) (by omega) hI', hF]
          · exact tloop_exit (hb _)
  exact fun i a h hI => key _ i a (Nat.le_refl _) h hI
theorem wk {i k : Nat} (h : i + k ≤ 1073741824) : IntKind.wrap .i64 ((i : Int) + (k : Int)) = ((i + k : Nat) : Int) := by rw [wi (by omega)]; omega
theorem lt_true {i n : Nat} (h : i < n) : decide ((i : Int) < (n : Int)) = true := by simp; omega
def codesF : Option (List Nat) → List Int → (List Int) ⊕ Unit
  | some l, a => .inl (a ++ intN l)
  | none, _ => .inr ()
/-! units -/
theorem u16_len (c : Nat) : (u16 c).length ≤ 2 := by unfold u16; split <;> simp
theorem u16_big {c : Nat} (h : okC c) (h1 : 65536 ≤ c) : [(IntKind.wrap .i64 (55296 + (IntKind.wrap .i64 (Int.tdiv (IntKind.wrap .i64 ((c : Int) - 65536)) 1024)))), (IntKind.wrap .i64 (56320 + (Int.tmod (IntKind.wrap .i64 ((c : Int) - 65536)) 1024)))] = u16 c := by
  have hc := okC_le h
  have e1 : IntKind.wrap .i64 ((c : Int) - 65536) = ((c - 65536 : Nat) : Int) := by rw [wi (by omega)]; omega
  have e2 : Int.tdiv ((c - 65536 : Nat) : Int) 1024 = (((c - 65536) / 1024 : Nat) : Int) := by rw [Int.tdiv_eq_ediv_of_nonneg (by omega)]; omega
  have e3 : Int.tmod ((c - 65536 : Nat) : Int) 1024 = (((c - 65536) % 1024 : Nat) : Int) := by rw [Int.tmod_eq_emod_of_nonneg (by omega)]; omega
  rw [e1, e2, e3, wn (by omega), wi (by omega), wi (by omega)]
  unfold u16
  rw [if_neg (by omega)]
  congr 1
def unitsF : Option (List Nat) → List Int → (List Int) ⊕ Unit
  | some l, a => .inl (a ++ u16L l)
  | none, _ => .inr ()
theorem u16L_len (l : List Nat) : (u16L l).length ≤ 2 * l.length := by
  induction l with
  | nil => simp [u16L]
  | cons c l ih => have := u16_len c; simp only [u16L, List.flatMap_cons, List.length_append, List.length_cons] at ih ⊢; omega
/-! what a document may have -/
def signN (c : Nat) : Bool := c == 9 || c == 10 || c == 13 || (decide (32 ≤ c) && decide (c ≤ 65535))
def srcB (s : Str) : Bool := match cps s with
  | some l => l.all signN
  | none => false
def srcF : Option (List Nat) → Unit → Unit ⊕ Unit
  | some l, _ => bif l.all signN then .inl () else .inr ()
  | none, _ => .inr ()
/-! joining -/
theorem wu32 {n : Int} (h : 0 ≤ n ∧ n < 4294967296) : IntKind.wrap .u32 n = n := by rw [IntKind.wrap_u32]; omega
theorem lead2 : ∀ x : Fin 32, bits .or .u8 192 (IntKind.wrap .u8 (x.val : Int)) = ((192 + x.val : Nat) : Int) := by decide +kernel
theorem lead3 : ∀ x : Fin 16, bits .or .u8 224 (IntKind.wrap .u8 (x.val : Int)) = ((224 + x.val : Nat) : Int) := by decide +kernel
theorem lead4 : ∀ x : Fin 8, bits .or .u8 240 (IntKind.wrap .u8 (x.val : Int)) = ((240 + x.val : Nat) : Int) := by decide +kernel
theorem cont8 : ∀ x : Fin 256, bits .or .u8 128 (bits .and .u8 (x.val : Int) 63) = ((128 + x.val % 64 : Nat) : Int) := by decide +kernel
theorem contN (c : Nat) : bits .or .u8 128 (bits .and .u8 (IntKind.wrap .u8 (c : Int)) 63) = ((128 + c % 64 : Nat) : Int) := by
  have e : IntKind.wrap .u8 (c : Int) = ((c % 256 : Nat) : Int) := by rw [IntKind.wrap_u8]; omega
  rw [e, cont8 ⟨c % 256, by omega⟩]
  simp only
  rw [show c % 256 % 64 = c % 64 by omega]
theorem fdivN (c n : Nat) (k : Nat) (h : n = 2 ^ k) (hk : k ≤ 32) : Int.fdiv (c : Int) (2 ^ min (Int.toNat (k : Int)) 32) = ((c / n : Nat) : Int) := by
  have : min (Int.toNat (k : Int)) 32 = k := by omega
  rw [this, Int.fdiv_eq_ediv_of_nonneg _ (Int.le_of_lt (Int.pow_pos (by decide)))]
  subst h
  simp
theorem fd6 (c : Nat) : Int.fdiv (c : Int) (2 ^ min (Int.toNat 6) 32) = ((c / 64 : Nat) : Int) := fdivN c 64 6 rfl (by decide)
theorem fd12 (c : Nat) : Int.fdiv (c : Int) (2 ^ min (Int.toNat 12) 32) = ((c / 4096 : Nat) : Int) := fdivN c 4096 12 rfl (by decide)
theorem fd18 (c : Nat) : Int.fdiv (c : Int) (2 ^ min (Int.toNat 18) 32) = ((c / 262144 : Nat) : Int) := fdivN c 262144 18 rfl (by decide)
theorem intsT_enc {c : Nat} (h : okC c) : intsT (encC c) = (encN c).map fun n : Nat => (n : Int) := by
  unfold intsT encC
  rw [List.map_map]
  apply List.map_congr_left
  intro x hx
  simp only [Function.comp_apply]
  rw [u8_toNat (encN_lt h x hx)]
set_option maxRecDepth 100000 in
theorem AppendRune_ok (b : List Int) (c : Nat) (hc : okC c) (hb : b.length + 4 ≤ 274877906944) : utf8_AppendRune b (c : Int) = some (b ++ intsT (encC c)) := by
  have hle := okC_le hc
  have w : IntKind.wrap .u32 (c : Int) = (c : Int) := wu32 (by omega)
  have ta : ∀ l : List Int, l.length ≤ 4 → tapp b l = some (b ++ l) := fun l hl => tapp_ok (by rw [lim_val]; omega)
  apply utf8_AppendRune_run
  simp only [utf8_AppendRune_B, w]
  rw [intsT_enc hc]
  by_cases c1 : c < 128
  · have d : decide ((c : Int) ≤ 127) = true := by simp; omega
    have e : IntKind.wrap .u8 (c : Int) = (c : Int) := by rw [IntKind.wrap_u8]; omega
    simp only [d, cnd_t, e, ta [(c : Int)] (by simp), bnd_s]
    unfold encN; rw [if_pos c1]; rfl
  have d1 : decide ((c : Int) ≤ 127) = false := by simp; omega
  have na : utf8_appendRuneNonASCII b (c : Int) = some (b ++ (encN c).map fun n : Nat => (n : Int)) := by
    apply utf8_appendRuneNonASCII_run
    simp only [utf8_appendRuneNonASCII_B, w, fd6, fd12, fd18, contN]
    by_cases c2 : c < 2048
    · have d : decide ((c : Int) ≤ 2047) = true := by simp; omega
      have e := lead2 ⟨c / 64, by omega⟩
      simp only at e
      simp only [d, cnd_t, e, ta _ (show ([((192 + c / 64 : Nat) : Int), ((128 + c % 64 : Nat) : Int)]).length ≤ 4 by simp), bnd_s]
      unfold encN; rw [if_neg c1, if_pos c2]; rfl
    have d2 : decide ((c : Int) ≤ 2047) = false := by simp; omega
    simp only [d2, cnd_f]
    by_cases c3 : c < 65536
    · have e := lead3 ⟨c / 4096, by omega⟩
      simp only at e
      have t3 := ta ([((224 + c / 4096 : Nat) : Int), ((128 + c / 64 % 64 : Nat) : Int), ((128 + c % 64 : Nat) : Int)]) (by simp)
      have fin : (encN c).map (fun n : Nat => (n : Int)) = [((224 + c / 4096 : Nat) : Int), ((128 + c / 64 % 64 : Nat) : Int), ((128 + c % 64 : Nat) : Int)] := by
        unfold encN; rw [if_neg c1, if_neg c2, if_pos c3]; rfl
      simp only [e, t3, bnd_s, fin]
      by_cases c4 : c < 55296
      · have d : decide ((c : Int) < 55296) = true := by simp; omega
        simp only [d, cnd_t]
      · have d : decide ((c : Int) < 55296) = false := by simp; omega
        have d' : decide ((57343 : Int) < (c : Int)) = true := by simp; unfold okC at hc; omega
        have d'' : decide ((c : Int) ≤ 65535) = true := by simp; omega
        simp only [d, d', d'', cnd_t, cnd_f]
    · have e := lead4 ⟨c / 262144, by omega⟩
      simp only at e
      have t4 := ta ([((240 + c / 262144 : Nat) : Int), ((128 + c / 4096 % 64 : Nat) : Int), ((128 + c / 64 % 64 : Nat) : Int), ((128 + c % 64 : Nat) : Int)]) (by simp)
      have fin : (encN c).map (fun n : Nat => (n : Int)) = [((240 + c / 262144 : Nat) : Int), ((128 + c / 4096 % 64 : Nat) : Int), ((128 + c / 64 % 64 : Nat) : Int), ((128 + c % 64 : Nat) : Int)] := by
        unfold encN; rw [if_neg c1, if_neg c2, if_neg c3]; rfl
      have d : decide ((c : Int) < 55296) = false := by simp; omega
      have d' : decide ((57343 : Int) < (c : Int)) = true := by simp; omega
      have d'' : decide ((c : Int) ≤ 65535) = false := by simp; omega
      have d3 : decide ((c : Int) > 65535) = true := by simp; omega
      have d4 : decide ((c : Int) ≤ 1114111) = true := by simp; omega
      simp only [d, d', d'', d3, d4, cnd_t, cnd_f, e, t4, bnd_s, fin]
  simp only [d1, cnd_f, na, bnd_s]
def joinF : Option (List Nat) → List Int → (List Int) ⊕ Unit
  | some l, a => .inl (a ++ intsT (encL8 l))
  | none, _ => .inr ()
theorem intsT_append (a b : Str) : intsT (a ++ b) = intsT a ++ intsT b := by simp [intsT]
theorem joinF_cons (c : Nat) (r : Option (List Nat)) (a : List Int) : joinF (r.map (c :: ·)) a = joinF r (a ++ intsT (encC c)) := by
  cases r with
  | none => rfl
  | some l => simp only [Option.map_some, joinF]; congr 1; rw [List.append_assoc, ← intsT_append]; simp [encL8]
theorem enc_ints_len (c : Nat) : (intsT (encC c)).length ≤ 4 := by
  have := encC_pos c; simp only [intsT, List.length_map]; exact this.2
set_option maxRecDepth 100000 in
theorem join_loop (us : List Int) (hu : us.length ≤ 1073741824) : ∀ (n i : Nat) (a : List Int), us.length - i ≤ n → i ≤ us.length → a.length ≤ 4 * i → tloop (letters_Join_l1T us) (a, (i : Int)) = some (joinF (joinU (us.drop i)) a) := by
  intro n
  induction n with
  | zero =>
    intro i a h1 h2 h3
    have : i = us.length := by omega
    subst this
    rw [List.drop_length]
    exact tloop_exit (by simp only [letters_Join_l1T, end_lt, cnd_f]; simp [joinU, joinF, encL8, intsT])
  | succ n ih =>
    intro i a h1 h2 h3
    by_cases hi : i = us.length
    · subst hi
      rw [List.drop_length]
      exact tloop_exit (by simp only [letters_Join_l1T, end_lt, cnd_f]; simp [joinU, joinF, encL8, intsT])
    have hlt : i < us.length := by omega
    obtain ⟨u, hu0⟩ : ∃ u, us[i]? = some u := ⟨_, List.getElem?_eq_getElem hlt⟩
    have e1 : nthI us (i : Int) = some u := by rw [nthI_nat]; exact hu0
    have hd : us.drop i = u :: us.drop (i + 1) := by
      rw [List.drop_eq_getElem_cons hlt]; congr 1
      rw [List.getElem?_eq_getElem hlt] at hu0; exact Option.some.inj hu0
    have e2 : IntKind.wrap .i64 ((i : Int) + 1) = ((i + 1 : Nat) : Int) := wadd (by omega)
    have app : ∀ c : Nat, okC c → utf8_AppendRune a (c : Int) = some (a ++ intsT (encC c)) := fun c hc => AppendRune_ok a c hc (by omega)
    have one : 0 ≤ u → u ≤ 65535 → ¬ (55296 ≤ u ∧ u ≤ 57343) → letters_Join_l1T us (a, (i : Int)) = some (.inl (a ++ intsT (encC u.toNat), ((i + 1 : Nat) : Int))) := by
      intro q1 q2 q3
      have hk : okC u.toNat := by unfold okC; omega
      have hu' : IntKind.wrap .i32 u = ((u.toNat : Nat) : Int) := by rw [w32 (by omega)]; omega
      have d0 : decide (u < 0) = false := by simp; omega
      have d1 : decide (u > 65535) = false := by simp; omega
      simp only [letters_Join_l1T, lt_true hlt, cnd_t, e1, bnd_s, d0, d1, cnd_f, hu', app _ hk, e2]
      by_cases q4 : u ≥ 56320
      · have d2 : decide (u ≥ 56320) = true := by simpa using q4
        have d3 : decide (u ≤ 57343) = false := by simp; omega
        have d4 : decide (u ≥ 55296) = true := by simp; omega
        have d5 : decide (u < 56320) = false := by simp; omega
        simp only [d2, d3, d4, d5, cnd_t, cnd_f]
      · have d2 : decide (u ≥ 56320) = false := by simp; omega
        have d4 : decide (u ≥ 55296) = false := by simp; omega
        simp only [d2, d4, cnd_f]
    by_cases b1 : u < 0 ∨ 65535 < u ∨ (56320 ≤ u ∧ u ≤ 57343)
    · have hj : joinU (us.drop i) = none := by rw [hd]; unfold joinU; rw [if_pos b1]
      rw [hj]
      refine tloop_exit ?_
      simp only [letters_Join_l1T, lt_true hlt, cnd_t, e1, bnd_s]
      by_cases q0 : u < 0
      · have d0 : decide (u < 0) = true := by simpa using q0
        simp only [d0, cnd_t, joinF]
      · have d0 : decide (u < 0) = false := by simpa using q0
        by_cases q1 : u > 65535
        · have d1 : decide (u > 65535) = true := by simpa using q1
          simp only [d0, d1, cnd_t, cnd_f, joinF]
        · have d1 : decide (u > 65535) = false := by simpa using q1
          have d2 : decide (u ≥ 56320) = true := by simp; omega
          have d3 : decide (u ≤ 57343) = true := by simp; omega
          simp only [d0, d1, d2, d3, cnd_t, cnd_f, joinF]
    · by_cases b2 : 55296 ≤ u ∧ u < 56320
      · have d0 : decide (u < 0) = false := by simp; omega
        have d1 : decide (u > 65535) = false := by simp; omega
        have d2 : decide (u ≥ 56320) = false := by simp; omega
        have d4 : decide (u ≥ 55296) = true := by simp; omega
        have d5 : decide (u < 56320) = true := by simp; omega
        by_cases hi1 : i + 1 = us.length
        · have hj : joinU (us.drop i) = none := by
            rw [hd, show us.drop (i + 1) = [] by rw [hi1]; simp]
            unfold joinU
            rw [if_neg b1, if_pos b2.1, if_pos b2.2]
          rw [hj]
          refine tloop_exit ?_
          have d6 : (((i + 1 : Nat) : Int) == (us.length : Int)) = true := by rw [hi1]; simp
          simp only [letters_Join_l1T, lt_true hlt, cnd_t, e1, bnd_s, d0, d1, d2, d4, d5, cnd_f, e2, d6, joinF]
        · have hlt1 : i + 1 < us.length := by omega
          obtain ⟨v, hv0⟩ : ∃ v, us[i + 1]? = some v := ⟨_, List.getElem?_eq_getElem hlt1⟩
          have e3 : nthI us ((i + 1 : Nat) : Int) = some v := by rw [nthI_nat]; exact hv0
          have hd1 : us.drop (i + 1) = v :: us.drop (i + 2) := by
            rw [List.drop_eq_getElem_cons hlt1]; congr 1
            rw [List.getElem?_eq_getElem hlt1] at hv0; exact Option.some.inj hv0
          have d6 : (((i + 1 : Nat) : Int) == (us.length : Int)) = false := by simp; omega
          by_cases b3 : 56320 ≤ v ∧ v ≤ 57343
          · have hj : joinU (us.drop i) = (joinU (us.drop (i + 2))).map ((65536 + 1024 * (u.toNat - 55296) + (v.toNat - 56320)) :: ·) := by
              rw [hd, hd1]
              conv => lhs; unfold joinU
              rw [if_neg b1, if_pos b2.1, if_pos b2.2]
              simp only
              rw [if_pos b3]
            have hq1 : u.toNat - 55296 < 1024 := by omega
            have hq2 : v.toNat - 56320 < 1024 := by clear hq1; omega
            have hk := okC_pair _ _ hq1 hq2
            have d7 : decide (v < 56320) = false := by simp; omega
            have d8 : decide (v > 57343) = false := by simp; omega
            have e5 : IntKind.wrap .i64 (((i + 1 : Nat) : Int) + 1) = ((i + 2 : Nat) : Int) := wadd (by omega)
            have e6 : IntKind.wrap .i32 (IntKind.wrap .i64 ((IntKind.wrap .i64 ((IntKind.wrap .i64 (65536 + (IntKind.wrap .i64 (1024 * (IntKind.wrap .i64 (u - 55296)))))) + v)) - 56320)) = ((65536 + 1024 * (u.toNat - 55296) + (v.toNat - 56320) : Nat) : Int) := by
              have a1 : IntKind.wrap .i64 (u - 55296) = u - 55296 := wi (by omega)
              have a2 : IntKind.wrap .i64 (1024 * (u - 55296)) = 1024 * (u - 55296) := wi (by omega)
              have a3 : IntKind.wrap .i64 (65536 + 1024 * (u - 55296)) = 65536 + 1024 * (u - 55296) := wi (by omega)
              have a4 : IntKind.wrap .i64 (65536 + 1024 * (u - 55296) + v) = 65536 + 1024 * (u - 55296) + v := wi (by omega)
              have a5 : IntKind.wrap .i64 (65536 + 1024 * (u - 55296) + v - 56320) = 65536 + 1024 * (u - 55296) + v - 56320 := wi (by omega)
              rw [a1, a2, a3, a4, a5, w32 (by omega)]
              have u1 : ((u.toNat - 55296 : Nat) : Int) = u - 55296 := by omega
              have v1 : ((v.toNat - 56320 : Nat) : Int) = v - 56320 := by clear hq1 hq2 hk u1; omega
              rw [Int.natCast_add, Int.natCast_add, Int.natCast_mul, u1, v1]
              show 65536 + 1024 * (u - 55296) + v - 56320 = 65536 + 1024 * (u - 55296) + (v - 56320)
              omega
            rw [hj, joinF_cons]
            rw [tloop_next (s' := (a ++ intsT (encC (65536 + 1024 * (u.toNat - 55296) + (v.toNat - 56320))), ((i + 2 : Nat) : Int))) (by
              simp only [letters_Join_l1T, lt_true hlt, cnd_t, e1, bnd_s, d0, d1, d2, d4, d5, cnd_f, e2, d6, e3, d7, d8, e6, app _ hk, e5])]
            have := enc_ints_len (65536 + 1024 * (u.toNat - 55296) + (v.toNat - 56320))
            exact ih (i + 2) _ (by omega) (by omega) (by rw [List.length_append]; omega)
          · have hj : joinU (us.drop i) = none := by
              rw [hd, hd1]
              unfold joinU
              rw [if_neg b1, if_pos b2.1, if_pos b2.2]
              simp only
              rw [if_neg b3]
            rw [hj]
            refine tloop_exit ?_
            simp only [letters_Join_l1T, lt_true hlt, cnd_t, e1, bnd_s, d0, d1, d2, d4, d5, cnd_f, e2, d6, e3, joinF]
            by_cases q : v < 56320
            · have d7 : decide (v < 56320) = true := by simpa using q
              simp only [d7, cnd_t]
            · have d7 : decide (v < 56320) = false := by simpa using q
              have d8 : decide (v > 57343) = true := by simp; omega
              simp only [d7, d8, cnd_t, cnd_f]
      · have hj : joinU (us.drop i) = (joinU (us.drop (i + 1))).map (u.toNat :: ·) := by
          rw [hd]
          conv => lhs; unfold joinU
          rw [if_neg b1]
          split
          · rw [if_neg (by omega)]
          · rfl
        have := enc_ints_len u.toNat
        rw [hj, joinF_cons, tloop_next (one (by omega) (by omega) (by omega))]
        exact ih (i + 1) _ (by omega) (by omega) (by rw [List.length_append]; omega)
theorem bytesT_intsT (s : Str) : bytesT (intsT s) = s := by
  unfold bytesT intsT
  rw [List.map_map]
  conv => rhs; rw [← List.map_id s]
  apply List.map_congr_left
  intro b _
  simp
theorem letters_Join_ok (us : List Int) (hu : us.length ≤ 1073741824) : letters_Join us = some (match joinU us with | some l => (encL8 l, true) | none => ([], false)) := by
  apply letters_Join_run
  have h := join_loop us hu us.length 0 [] (by omega) (by omega) (by simp)
  rw [List.drop_zero] at h
  simp only [letters_Join_B]
  rw [show tloop (letters_Join_l1T us) ([], 0) = _ from h]
  cases joinU us with
  | none => rfl
  | some l => simp only [bnd_s, joinF, elim_inl, List.nil_append, bytesT_intsT]
theorem seinekeep_SameInts_self (l : List Int) (h : l.length ≤ 4294967296) : seinekeep_SameInts l l = some true := by
  apply seinekeep_SameInts_run
  have hl := loop_all (b := seinekeep_SameInts_l1T l l) l (.inl () : Unit ⊕ Unit) (by unfold Sm; omega) (by simp only [seinekeep_SameInts_l1T, end_lt, cnd_f])
    (fun k x hx h1 h2 h3 => by
      simp only [seinekeep_SameInts_l1T, h1, h2, h3, bnd_s, cnd_t, bne_self_eq_false, cnd_f])
  simp only [seinekeep_SameInts_B, bne_self_eq_false, cnd_f, hl, bnd_s, elim_inl]
end Go.Proofs.YtlaomadhhdcflaaDoor

/-
  LettersJoins, of the typed functions.
-/
set_option linter.unusedVariables false
set_option linter.unusedSimpArgs false
open Go Go.Ev
namespace Go.Proofs.YtlaomadhhdcflaaDoor

theorem seinelaw1_awake_ok : seinelaw1_awake = some true := seinelaw1_awake_run 100 (by kernel_rfl)
theorem long3 {α : Type} {s : List α} : decide ((s.length : Int) > 3000) = true ∨ (decide ((s.length : Int) > 3000) = false ∧ s.length ≤ 3000) := by
  by_cases h : (s.length : Int) > 3000
  · left; simpa using h
  · right; exact ⟨by simpa using h, by omega⟩
/-! a code point's bytes -/
theorem and63N {c : Nat} (h : c < 1073741824) : bits .and .i64 (c : Int) 63 = ((c % 64 : Nat) : Int) := by
  have h0 : bits .and .i64 (c : Int) 63 = IntKind.wrap .i64 ((BitVec.ofInt 64 (c : Int) &&& BitVec.ofInt 64 ((63 : Nat) : Int)).toNat : Int) := rfl
  have h1 : (BitVec.ofInt 64 (c : Int) &&& BitVec.ofInt 64 ((63 : Nat) : Int)).toNat = c % 64 := by
    rw [BitVec.ofInt_natCast, BitVec.ofInt_natCast, BitVec.toNat_and, BitVec.toNat_ofNat, BitVec.toNat_ofNat, Nat.mod_eq_of_lt (by omega), Nat.mod_eq_of_lt (by omega)]
    exact Nat.and_two_pow_sub_one_eq_mod c 6
  rw [h0, h1]
  exact wn (by omega)
theorem plead2 : ∀ x : Fin 32, bits .or .i64 192 (x.val : Int) = ((192 + x.val : Nat) : Int) := by decide +kernel
theorem plead3 : ∀ x : Fin 16, bits .or .i64 224 (x.val : Int) = ((224 + x.val : Nat) : Int) := by decide +kernel
theorem plead4 : ∀ x : Fin 8, bits .or .i64 240 (x.val : Int) = ((240 + x.val : Nat) : Int) := by decide +kernel
theorem pcont : ∀ x : Fin 64, bits .or .i64 128 (x.val : Int) = ((128 + x.val : Nat) : Int) := by decide +kernel
theorem contP {c : Nat} (h : c < 1073741824) : IntKind.wrap .u8 (bits .or .i64 128 (bits .and .i64 (c : Int) 63)) = ((128 + c % 64 : Nat) : Int) := by
  rw [and63N h, pcont ⟨c % 64, by omega⟩, IntKind.wrap_u8]
  simp only
  omega
theorem fdivP (c n : Nat) (k : Nat) (h : n = 2 ^ k) (hk : k ≤ 32) : Int.fdiv (c : Int) (2 ^ min (Int.toNat (k : Int)) 64) = ((c / n : Nat) : Int) := by
  have : min (Int.toNat (k : Int)) 64 = k := by omega
  rw [this, Int.fdiv_eq_ediv_of_nonneg _ (Int.le_of_lt (Int.pow_pos (by decide)))]
  subst h
  simp
theorem fp6 (c : Nat) : Int.fdiv (c : Int) (2 ^ min (Int.toNat 6) 64) = ((c / 64 : Nat) : Int) := fdivP c 64 6 rfl (by decide)
theorem fp12 (c : Nat) : Int.fdiv (c : Int) (2 ^ min (Int.toNat 12) 64) = ((c / 4096 : Nat) : Int) := fdivP c 4096 12 rfl (by decide)
theorem fp18 (c : Nat) : Int.fdiv (c : Int) (2 ^ min (Int.toNat 18) 64) = ((c / 262144 : Nat) : Int) := fdivP c 262144 18 rfl (by decide)
theorem bytesT_map (l : List Nat) : bytesT (l.map fun n : Nat => (n : Int)) = l.map UInt8.ofNat := by
  unfold bytesT; rw [List.map_map]; apply List.map_congr_left; intro x _; simp
theorem bytesT_enc (c : Nat) : bytesT ((encN c).map fun n : Nat => (n : Int)) = encC c := bytesT_map _
theorem Put_ok (c : Nat) (hc : okC c) : seineref1_Put (c : Int) = some (encC c) := by
  have hle := okC_le hc
  apply seineref1_Put_run
  simp only [seineref1_Put_B, fp6, fp12, fp18]
  rw [← bytesT_enc]
  by_cases c1 : c < 128
  · have d : decide ((c : Int) < 128) = true := by simp; omega
    have e : IntKind.wrap .u8 (c : Int) = (c : Int) := by rw [IntKind.wrap_u8]; omega
    simp only [d, cnd_t, e, bnd_s]
    unfold encN; rw [if_pos c1]; rfl
  have d1 : decide ((c : Int) < 128) = false := by simp; omega
  have w8 : ∀ n : Nat, n < 256 → IntKind.wrap .u8 (n : Int) = (n : Int) := fun n hn => by rw [IntKind.wrap_u8]; omega
  by_cases c2 : c < 2048
  · have d : decide ((c : Int) < 2048) = true := by simp; omega
    have e := plead2 ⟨c / 64, by omega⟩
    simp only at e
    simp only [d1, d, cnd_t, cnd_f, e, contP (show c < 1073741824 by omega), w8 (192 + c / 64) (by omega), bnd_s]
    unfold encN; rw [if_neg c1, if_pos c2]; rfl
  have d2 : decide ((c : Int) < 2048) = false := by simp; omega
  by_cases c3 : c < 65536
  · have d : decide ((c : Int) < 65536) = true := by simp; omega
    have e := plead3 ⟨c / 4096, by omega⟩
    simp only at e
    simp only [d1, d2, d, cnd_t, cnd_f, e, contP (show c < 1073741824 by omega), contP (show c / 64 < 1073741824 by omega), w8 (224 + c / 4096) (by omega), bnd_s]
    unfold encN; rw [if_neg c1, if_neg c2, if_pos c3]; rfl
  have d3 : decide ((c : Int) < 65536) = false := by simp; omega
  have e := plead4 ⟨c / 262144, by omega⟩
  simp only at e
  simp only [d1, d2, d3, cnd_f, e, contP (show c < 1073741824 by omega), contP (show c / 64 < 1073741824 by omega), contP (show c / 4096 < 1073741824 by omega), w8 (240 + c / 262144) (by omega), bnd_s]
  unfold encN; rw [if_neg c1, if_neg c2, if_neg c3]; rfl
/-! the page's Join -/
def joinG : Option (List Nat) → Str → Str ⊕ Unit
  | some l, a => .inl (a ++ encL8 l)
  | none, _ => .inr ()
theorem joinG_cons (c : Nat) (r : Option (List Nat)) (a : Str) : joinG (r.map (c :: ·)) a = joinG r (a ++ encC c) := by
  cases r with
  | none => rfl
  | some l => simp only [Option.map_some, joinG]; congr 1; rw [List.append_assoc]; simp [encL8]
set_option maxRecDepth 100000 in
theorem rjoin_loop (us : List Int) (hu : us.length ≤ 1073741824) : ∀ (n i : Nat) (a : Str), us.length - i ≤ n → i ≤ us.length → a.length ≤ 4 * i → tloop (seineref1_Join_l1T us) (a, (i : Int)) = some (joinG (joinU (us.drop i)) a) := by
  intro n
  induction n with
  | zero =>
    intro i a h1 h2 h3
    have : i = us.length := by omega
    subst this
    rw [List.drop_length]
    exact tloop_exit (by simp only [seineref1_Join_l1T, end_lt, cnd_f]; simp [joinU, joinG, encL8])
  | succ n ih =>
    intro i a h1 h2 h3
    by_cases hi : i = us.length
    · subst hi
      rw [List.drop_length]
      exact tloop_exit (by simp only [seineref1_Join_l1T, end_lt, cnd_f]; simp [joinU, joinG, encL8])
    have hlt : i < us.length := by omega
    obtain ⟨u, hu0⟩ : ∃ u, us[i]? = some u := ⟨_, List.getElem?_eq_getElem hlt⟩
    have e1 : nthI us (i : Int) = some u := by rw [nthI_nat]; exact hu0
    have hd : us.drop i = u :: us.drop (i + 1) := by
      rw [List.drop_eq_getElem_cons hlt]; congr 1
      rw [List.getElem?_eq_getElem hlt] at hu0; exact Option.some.inj hu0
    have e2 : IntKind.wrap .i64 ((i : Int) + 1) = ((i + 1 : Nat) : Int) := wadd (by omega)
    have app : ∀ c : Nat, tapp a (encC c) = some (a ++ encC c) := fun c => tapp_ok (by have := encC_pos c; rw [lim_val]; omega)
    have one : 0 ≤ u → u ≤ 65535 → ¬ (55296 ≤ u ∧ u ≤ 57343) → seineref1_Join_l1T us (a, (i : Int)) = some (.inl (a ++ encC u.toNat, ((i + 1 : Nat) : Int))) := by
      intro q1 q2 q3
      have hk : okC u.toNat := by unfold okC; omega
      have pu : seineref1_Put u = some (encC u.toNat) := by
        have := Put_ok _ hk
        rwa [show ((u.toNat : Nat) : Int) = u by omega] at this
      have d0 : decide (u < 0) = false := by simp; omega
      have d1 : decide (u > 65535) = false := by simp; omega
      simp only [seineref1_Join_l1T, lt_true hlt, cnd_t, e1, bnd_s, d0, d1, cnd_f, pu, app, e2]
      by_cases q4 : u ≥ 56320
      · have d2 : decide (u ≥ 56320) = true := by simpa using q4
        have d3 : decide (u < 57344) = false := by simp; omega
        have d4 : decide (u ≥ 55296) = true := by simp; omega
        have d5 : decide (u < 56320) = false := by simp; omega
        simp only [d2, d3, d4, d5, cnd_t, cnd_f]
      · have d2 : decide (u ≥ 56320) = false := by simp; omega
        have d4 : decide (u ≥ 55296) = false := by simp; omega
        simp only [d2, d4, cnd_f]
    by_cases b1 : u < 0 ∨ 65535 < u ∨ (56320 ≤ u ∧ u ≤ 57343)
    · have hj : joinU (us.drop i) = none := by rw [hd]; unfold joinU; rw [if_pos b1]
      rw [hj]
      refine tloop_exit ?_
      simp only [seineref1_Join_l1T, lt_true hlt, cnd_t, e1, bnd_s]
      by_cases q0 : u < 0
      · have d0 : decide (u < 0) = true := by simpa using q0
        simp only [d0, cnd_t, joinG]
      · have d0 : decide (u < 0) = false := by simpa using q0
        by_cases q1 : u > 65535
        · have d1 : decide (u > 65535) = true := by simpa using q1
          simp only [d0, d1, cnd_t, cnd_f, joinG]
        · have d1 : decide (u > 65535) = false := by simpa using q1
          have d2 : decide (u ≥ 56320) = true := by simp; omega
          have d3 : decide (u < 57344) = true := by simp; omega
          simp only [d0, d1, d2, d3, cnd_t, cnd_f, joinG]
    · by_cases b2 : 55296 ≤ u ∧ u < 56320
      · have d0 : decide (u < 0) = false := by simp; omega
        have d1 : decide (u > 65535) = false := by simp; omega
        have d2 : decide (u ≥ 56320) = false := by simp; omega
        have d4 : decide (u ≥ 55296) = true := by simp; omega
        have d5 : decide (u < 56320) = true := by simp; omega
        by_cases hi1 : i + 1 = us.length
        · have hj : joinU (us.drop i) = none := by
            rw [hd, show us.drop (i + 1) = [] by rw [hi1]; simp]
            unfold joinU
            rw [if_neg b1, if_pos b2.1, if_pos b2.2]
          rw [hj]
          refine tloop_exit ?_
          have d6 : decide (((i + 1 : Nat) : Int) ≥ (us.length : Int)) = true := by rw [hi1]; simp
          simp only [seineref1_Join_l1T, lt_true hlt, cnd_t, e1, bnd_s, d0, d1, d2, d4, d5, cnd_f, e2, d6, joinG]
        · have hlt1 : i + 1 < us.length := by omega
          obtain ⟨v, hv0⟩ : ∃ v, us[i + 1]? = some v := ⟨_, List.getElem?_eq_getElem hlt1⟩
          have e3 : nthI us ((i + 1 : Nat) : Int) = some v := by rw [nthI_nat]; exact hv0
          have hd1 : us.drop (i + 1) = v :: us.drop (i + 2) := by
            rw [List.drop_eq_getElem_cons hlt1]; congr 1
            rw [List.getElem?_eq_getElem hlt1] at hv0; exact Option.some.inj hv0
          have d6 : decide (((i + 1 : Nat) : Int) ≥ (us.length : Int)) = false := by simp; omega
          by_cases b3 : 56320 ≤ v ∧ v ≤ 57343
          · have hj : joinU (us.drop i) = (joinU (us.drop (i + 2))).map ((65536 + 1024 * (u.toNat - 55296) + (v.toNat - 56320)) :: ·) := by
              rw [hd, hd1]
              conv => lhs; unfold joinU
              rw [if_neg b1, if_pos b2.1, if_pos b2.2]
              simp only
              rw [if_pos b3]
            have hq1 : u.toNat - 55296 < 1024 := by omega
            have hq2 : v.toNat - 56320 < 1024 := by clear hq1; omega
            have hk := okC_pair _ _ hq1 hq2
            have d7 : decide (v < 56320) = false := by simp; omega
            have d8 : decide (v ≥ 57344) = false := by simp; omega
            have e5 : IntKind.wrap .i64 (((i + 1 : Nat) : Int) + 1) = ((i + 2 : Nat) : Int) := wadd (by omega)
            have e6 : IntKind.wrap .i64 ((IntKind.wrap .i64 ((IntKind.wrap .i64 (65536 + (IntKind.wrap .i64 (1024 * (IntKind.wrap .i64 (u - 55296)))))) + v)) - 56320) = ((65536 + 1024 * (u.toNat - 55296) + (v.toNat - 56320) : Nat) : Int) := by
              have a1 : IntKind.wrap .i64 (u - 55296) = u - 55296 := wi (by omega)
              have a2 : IntKind.wrap .i64 (1024 * (u - 55296)) = 1024 * (u - 55296) := wi (by omega)
              have a3 : IntKind.wrap .i64 (65536 + 1024 * (u - 55296)) = 65536 + 1024 * (u - 55296) := wi (by omega)
              have a4 : IntKind.wrap .i64 (65536 + 1024 * (u - 55296) + v) = 65536 + 1024 * (u - 55296) + v := wi (by omega)
              have a5 : IntKind.wrap .i64 (65536 + 1024 * (u - 55296) + v - 56320) = 65536 + 1024 * (u - 55296) + v - 56320 := wi (by omega)
              rw [a1, a2, a3, a4, a5]
              have u1 : ((u.toNat - 55296 : Nat) : Int) = u - 55296 := by omega
              have v1 : ((v.toNat - 56320 : Nat) : Int) = v - 56320 := by clear hq1 hq2 hk u1; omega
              rw [Int.natCast_add, Int.natCast_add, Int.natCast_mul, u1, v1]
              show 65536 + 1024 * (u - 55296) + v - 56320 = 65536 + 1024 * (u - 55296) + (v - 56320)
              omega
            rw [hj, joinG_cons]
            rw [tloop_next (s' := (a ++ encC (65536 + 1024 * (u.toNat - 55296) + (v.toNat - 56320)), ((i + 2 : Nat) : Int))) (by
              simp only [seineref1_Join_l1T, lt_true hlt, cnd_t, e1, bnd_s, d0, d1, d2, d4, d5, cnd_f, e2, d6, e3, d7, d8, e6, Put_ok _ hk, app, e5])]
            have := encC_pos (65536 + 1024 * (u.toNat - 55296) + (v.toNat - 56320))
            exact ih (i + 2) _ (by omega) (by omega) (by rw [List.length_append]; omega)
          · have hj : joinU (us.drop i) = none := by
              rw [hd, hd1]
              unfold joinU
              rw [if_neg b1, if_pos b2.1, if_pos b2.2]
              simp only
              rw [if_neg b3]
            rw [hj]
            refine tloop_exit ?_
            simp only [seineref1_Join_l1T, lt_true hlt, cnd_t, e1, bnd_s, d0, d1, d2, d4, d5, cnd_f, e2, d6, e3, joinG]
            by_cases q : v < 56320
            · have d7 : decide (v < 56320) = true := by simpa using q
              simp only [d7, cnd_t]
            · have d7 : decide (v < 56320) = false := by simpa using q
              have d8 : decide (v ≥ 57344) = true := by simp; omega
              simp only [d7, d8, cnd_t, cnd_f]
      · have hj : joinU (us.drop i) = (joinU (us.drop (i + 1))).map (u.toNat :: ·) := by
          rw [hd]
          conv => lhs; unfold joinU
          rw [if_neg b1]
          split
          · rw [if_neg (by omega)]
          · rfl
        have := encC_pos u.toNat
        rw [hj, joinG_cons, tloop_next (one (by omega) (by omega) (by omega))]
        exact ih (i + 1) _ (by omega) (by omega) (by rw [List.length_append]; omega)
theorem seineref1_Join_ok (us : List Int) (hu : us.length ≤ 1073741824) : seineref1_Join us = some (match joinU us with | some l => (encL8 l, true) | none => ([], false)) := by
  apply seineref1_Join_run
  have h := rjoin_loop us hu us.length 0 [] (by omega) (by omega) (by simp)
  rw [List.drop_zero] at h
  simp only [seineref1_Join_B]
  rw [show tloop (seineref1_Join_l1T us) ([], 0) = _ from h]
  cases joinU us with
  | none => rfl
  | some l => simp only [bnd_s, joinG, elim_inl, List.nil_append]
/-! copies with a mark behind them -/
theorem seinekeep_Ints_ok (l : List Int) (hl : l.length ≤ 1073741824) : seinekeep_Ints l = some (l, [77]) := by
  apply seinekeep_Ints_run
  simp only [seinekeep_Ints_B, wadd (show l.length < 9223372036854775807 by omega)]
  rw [tmk_ok (by rw [lim_val]; omega), bnd_s, tapp_ok (by rw [lim_val]; simp; omega), bnd_s, List.nil_append, tapp_ok (by rw [lim_val]; simp; omega), bnd_s, tslb_ok (by simp; omega), bnd_s]
  simp
theorem seinekeep_IntsStay_ok (l : List Int) (hl : l.length ≤ 1073741824) : seinekeep_IntsStay l [77] l = some true := by
  apply seinekeep_IntsStay_run
  simp only [seinekeep_IntsStay_B, wadd (show l.length < 9223372036854775807 by omega), seinekeep_SameInts_self l (by omega), bnd_s, cnd_t]
  rw [tslb_ok (by simp; omega), bnd_s, nthI_nat]
  have : ((l ++ [77]).take (((l.length + 1 : Nat) : Int).toNat)).drop (0 : Int).toNat = l ++ [77] := by simp only [Int.toNat_natCast, Int.toNat_zero, List.drop_zero]; exact List.take_of_length_le (by simp)
  simp only [this]
  rw [List.getElem?_append_right (Nat.le_refl _)]
  simp
theorem LettersJoins_ok (l : List Int) : seinelaw1_LettersJoins l = some true := by
  apply seinelaw1_LettersJoins_run
  simp only [seinelaw1_LettersJoins_B, seinelaw1_awake_ok, bnd_s]
  rcases long3 (s := l) with h | ⟨h, hl⟩
  · rw [h]; rfl
  have hs : l.length ≤ 1073741824 := by omega
  simp only [h, cnd_f, seinekeep_Ints_ok l hs, letters_Join_ok l hs, seineref1_Join_ok l hs, seinekeep_IntsStay_ok l hs, bnd_s]
  cases joinU l <;> simp only [beq_self_eq_true, cnd_t]
end Go.Proofs.YtlaomadhhdcflaaDoor

/-
  What is asked of the program as a whole.
-/
set_option linter.unusedVariables false
open Go Go.Ev
open Go.ChangeShapes Go.WideShapes Go.ChangeAt Go.RowKit
namespace Go.Proofs.YtlaomadhhdcflaaDoor
theorem mixed : Tryd.prog.follows .mixedOrders = true := by kernel_rfl
theorem names : (Tryd.prog.funcs.toList.all fun fn => !fn.body.isSome || !(fn.name == "runtime.NumGoroutine")) = true := by kernel_rfl
theorem laid : laidOutB Tryd.prog = true := by kernel_rfl
theorem pok : POk Tryd.prog := by
  refine ⟨mixed, fun f fn hf hb => ?_⟩
  have hm : fn ∈ Tryd.prog.funcs.toList := by
    have := Array.mem_of_getElem? hf
    simpa using this
  have := List.all_eq_true.1 names fn hm
  rw [hb] at this
  simpa using this
theorem blOk {H : Type} : BlOk (H := H) Rows.uptoBulk Rows.uptoBulkAll := by
  refine ⟨fun l => ?_, fun s => ?_, ?_, fun es sp => ?_, fun ps => ?_, fun d r => ?_⟩
  · cases l <;> simp [Rows.uptoBulk]
  · simp [Rows.uptoBulk]
  · simp [Rows.uptoBulk]
  · simp only [Rows.uptoBulk]; omega
  · simp only [Rows.uptoBulk]; omega
  · simp [Rows.uptoBulkAll]
theorem own : ownKnob Tryd.prog.godebug = none := by kernel_rfl
theorem firstE : (Rows.laid_unicode_utf8_first : DataW Unit) = Go.Lib.firstData := by kernel_rfl
theorem acceptE : (Rows.laid_unicode_utf8_acceptRanges : DataW Unit) = Go.Lib.acceptData := by kernel_rfl
def laidList : List (String × DataW Unit) := Rows.lettersJoinsUptoRow.laid
theorem tabsOf {W : World} (h : laidMetH Tryd.prog laidList W) : Go.Lib.Utf8Tabs 0 1 W := by
  have h3 := Go.Lib.laidMet.reads h (.tail _ (.head _))
  have h4 := Go.Lib.laidMet.reads h (.head _)
  rw [firstE] at h3
  rw [acceptE] at h4
  exact utf8Tabs_of_readsT (ρ := Tryd.lays260_ren) (U8Types.of260 Tryd.lays260) ⟨by kernel_rfl, by kernel_rfl, by kernel_rfl, by kernel_rfl, by kernel_rfl, by kernel_rfl, by kernel_rfl⟩ h3 h4
theorem gmOf {W : World} (h : laidMetH Tryd.prog laidList W) : ∀ b i v, GM b i = some v → memW W b i = some v := by
  obtain ⟨t1, t2⟩ := tabsOf h
  intro b i v hv
  unfold GM at hv
  split at hv
  · rename_i hb; subst hb
    split at hv
    · rename_i hi; cases hv; exact (cell_mem (t1 i hi)).2
    · simp at hv
  · split at hv
    · rename_i hb; subst hb
      split at hv
      · rename_i hi
        cases hv
        obtain ⟨e1, e2⟩ := t2 (i / 2) (by omega)
        split
        · rename_i he
          rw [show 2 * (i / 2) = i by omega] at e1
          exact (cell_mem e1).2
        · rename_i he
          rw [show 2 * (i / 2) + 1 = i by omega] at e2
          exact (cell_mem e2).2
      · simp at hv
    · simp at hv
/-- A world for the witness: the two tables hold what their initialisers lay. -/
noncomputable def laidWorld (os : Os) : World :=
  let w0 := World.holding Tryd.prog os ⟨#[], #[], []⟩
  let put (h : Array Obj) (g : Nat) (cs : Array Value) : Array Obj := h.modify g fun
    | .cells _ t frozen => .cells cs t frozen
    | o => o
  let h1 := put w0.heap 0 (Go.Lib.firstTab.map fun z => Value.int .u8 z).toArray
  let h2 := put h1 1 ((List.range 16).flatMap fun i => [Value.int .u8 (Go.Lib.accLo i), Value.int .u8 (Go.Lib.accHi i)]).toArray
  { w0 with heap := h2 }
end Go.Proofs.YtlaomadhhdcflaaDoor

/-
  LettersJoins: of any units: the text that they are together, or that they are none, is the page's; they stay as they were. Conditions: the row's own (bulk at most 1048576; utf8's two tables hold what their initialisers lay, which the card ties to the program's text).
-/
set_option linter.unusedVariables false
open Go Go.Ev
open Go.ChangeShapes Go.WideShapes Go.ChangeAt Go.RowKit
namespace Go.Proofs.YtlaomadhhdcflaaDoor
namespace lettersJoins
def fs : Ty := (.fcons (.sl (.int .i64)) .fnil)
theorem lawF : ∀ x : fs.den RS, good RS fs x → bulkL RS fs x ≤ 1048576 → OL Tryd.prog MT XT 3 (encL RS fs x) [] = some (.bool true, []) := by
  rintro ⟨x0, _⟩ g b
  have b' : (bkSl bk1) x0 + (0) ≤ 1048576 := b
  obtain ⟨g0, _⟩ := g
  have g0' : (gdSl (gdI .i64)) x0 := g0
  have e : encL RS fs (x0, ()) = [.slice (List.map (PV.int .i64) x0) [] false] := rfl
  rw [e]
  change O 3 _ _ = _
  have h := seinelaw1_LettersJoins_spec (LettersJoins_ok x0)
  simpa only [tys, seinelaw1_LettersJoinsE] using h
set_option maxRecDepth 100000 in
theorem contract (H : Type) (enc : TypeId × Value → H) (W : World) (base : Nat) (args : Array Value) (ds gs : List (DataW H)) (before : List MemPlace)
    (hval : ∀ (j : Nat) t v, Tryd.f3.params[j]? = some t → args[j]? = some v → Value.okWide Tryd.prog W .any base t v)
    (hW : DataW.Whole enc Tryd.prog Tryd.f3.params.toList Rows.lettersJoinsSpec.vars false W args.toList ds gs before) (hk : Rows.uptoSmall H (ds ++ gs) = true) (hL : laidMetH Tryd.prog laidList W) :
    Calls Tryd.prog 3 args W fun e W' => ∃ v, e = .returned v ∧ Rows.lettersJoinsSpec.post enc Tryd.prog Tryd.f3 false true false false W args v W' := by
  have hg : gs = [] := by
    obtain ⟨p, q, hA, hV, _⟩ := hW
    exact (trodVars_none hV).1
  have hb : Rows.uptoBulkAll ds ≤ 1048576 := by
    have := of_decide_eq_true hk
    simpa [hg] using this
  have hlen : ds.length = 1 := by
    obtain ⟨p, q, hA0, hV, _⟩ := hW
    have hA : DataW.TrodAll enc Tryd.prog W 0 (fun _ => true) true Tryd.f3.params.toList args.toList ds p := hA0
    rw [Tryd.params3] at hA
    obtain ⟨v0, vs0, d0, ds0, p0, q0, h0, rfl, rfl, ht0, r0⟩ := trodAll_cons hA
    obtain ⟨rfl, rfl, rfl⟩ := trodAll_nil r0
    rfl
  refine contract_glob (G := GM) pok xok laid blOk Tryd.func3 rfl (n := 9) (ρ := RS) (τ := TS) (fs := fs) (tb := 4) (by kernel_rfl) (by rw [show Tryd.f3.resultTypes = #[4] from rfl]) Tryd.underlying4 rfl (gmOf hL) (rok enc W blOk) ?_ hval hW hb lawF
  subst hg
  match ds, hlen with
  | [d0], _ => exact ⟨rfl, rfl, rfl⟩
theorem laid_met (os : Os) : laidMet Tryd.prog Rows.lettersJoinsUptoRow.laid ((laidWorld os).forCall (fun _ _ => 0) ⟨#[], #[.slice none 0 0], []⟩).memory :=
  laidMet_of_run' 8 (by kernel_rfl) (by kernel_rfl)
theorem reads (os : Os) {H : Type} (enc : TypeId × Value → H) : ∃ places, DataW.whole enc Tryd.prog ((laidWorld os).forCall (fun _ _ => 0) ⟨#[], #[.slice none 0 0], []⟩).memory Tryd.f3.params.toList Rows.lettersJoinsSpec.vars false (#[.slice none 0 0] : Array Value).toList 8 = some ([.nil], [], places) :=
  ⟨[], by kernel_rfl⟩
set_option maxRecDepth 100000 in
theorem lifted (os : Os) (started : os.Started) (H : Type) (enc : TypeId × Value → H) (F : Stop.Interp) :
    ReturnsInHanded {} Tryd.checked os 3 .any ((Rows.OpenSpec.upto Rows.lettersJoinsSpec).preRow enc Tryd.prog Tryd.f3 Rows.lettersJoinsUptoRow.domain false Rows.lettersJoinsUptoRow.laid) (((Rows.OpenSpec.upto Rows.lettersJoinsSpec).at F).post enc Tryd.prog Tryd.f3 false true false false) := by
  obtain ⟨places, hx⟩ := reads os enc
  refine returnsInHanded_of_row (C := Tryd.checked) (s := Rows.OpenSpec.upto Rows.lettersJoinsSpec) own started (by kernel_rfl) Tryd.func3
    (witness_row_at (enc := enc) (C := Tryd.checked) false (laidWorld os) #[.slice none 0 0] rfl (by kernel_rfl) (by kernel_rfl) (by kernel_rfl)
      (OpenSpec.preRow_of_cond 8 hx (by kernel_rfl) (fun k hk => by cases hk; kernel_rfl) (by kernel_rfl) (laid_met os))) ?_
  intro W base args ds gs before hval hW _ hcond _ hL _ _
  exact contract H enc W base args ds gs before hval hW (hcond _ rfl) hL
theorem over : Rows.lettersJoinsUptoRow.holds Tryd.pinned (Rows.OpenSpec.upto Rows.lettersJoinsSpec) :=
  OpenClaim.holds_of_cond 3 Tryd.f3 rfl rfl rfl rfl rfl rfl rfl ⟨rfl, rfl, rfl, rfl, rfl⟩ rfl rfl rfl rfl rfl (by kernel_rfl) Tryd.func3 (by kernel_rfl)
    (of_decide_eq_true (by kernel_rfl)) (by unfold Func.isWrapper; first | (rw [if_pos (by decide +kernel)]; kernel_rfl) | (rw [if_neg (by decide +kernel)]; exact ⟨rfl, rfl⟩))
    (fun os started H enc _ F => by rw [OpenClaim.pre_eq_preRow]; exact lifted os started H enc F)
/-- No parameter wants a stand-in; the program's own looks are off. -/
theorem plain (f : FuncId) (fn : Func) (hf : Tryd.pinned.checked.prog.funcNamed Rows.lettersJoinsUptoRow.func = some f) (hfn : Tryd.pinned.checked.prog.funcs[f]? = some fn) :
    false = Tryd.pinned.checked.prog.looks [] ∧ ∀ (j : Nat) t, fn.params[j]? = some t → Tryd.pinned.checked.prog.wantsStandIn t = false := by
  obtain rfl : f = 3 := Option.some.inj ((show Tryd.prog.funcNamed Rows.lettersJoinsUptoRow.func = some 3 by kernel_rfl).symm.trans hf) |>.symm
  obtain rfl : fn = Tryd.f3 := (Option.some.inj (Tryd.func3.symm.trans hfn)).symm
  refine ⟨by kernel_rfl, fun j t ht => ?_⟩
  have all : (Tryd.f3.params.toList.all fun t => !Tryd.prog.wantsStandIn t) = true := by kernel_rfl
  have hm : t ∈ Tryd.f3.params.toList := by
    have := Array.mem_of_getElem? ht
    simpa using this
  have := List.all_eq_true.1 all t hm
  exact (show Tryd.prog.wantsStandIn t = false by simpa using this)
theorem proved : Rows.LettersJoinsUptoCardSaid :=
  Claim7.holds_tied_plain_at .later [] _ _ _ _ over (fun _ h => by cases h) (by kernel_rfl) (fun _ h => by cases h) lettersJoinsUpto_row_tie rfl ⟨rfl, rfl⟩ (by kernel_rfl) rfl plain (by kernel_rfl)
end lettersJoins
end Go.Proofs.YtlaomadhhdcflaaDoor
