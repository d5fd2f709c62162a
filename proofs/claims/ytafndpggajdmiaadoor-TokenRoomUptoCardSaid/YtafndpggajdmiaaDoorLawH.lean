/-
  TokenRoom: a text of as many bytes as may be is read; one more is too much. Conditions: the row's own (bulk at most 1048576; utf8's two tables hold what their initialisers lay, which the card ties to the program's text).
-/
import Derived.Test.YtafndpggajdmiaaDoorHGb
import Derived.Test.YtafndpggajdmiaaDoorHEd
import Derived.KernelRfl
import Derived.Test.YtafndpggajdmiaaDoorHGa
import Derived.Deep.DeepHandedRow
import Derived.Lib.LaidTab
import Derived.Lib.LaidU8T
import Derived.Test.YtafndpggajdmiaaDoorRows
import Derived.WalkKit
import Derived.ProofKit
import Derived.OpenShut
import Derived.JoinedCond
import Derived.Test.YtafndpggajdmiaaDoorCards
import Derived.Test.YtafndpggajdmiaaDoorTie
set_option linter.unusedVariables false
set_option linter.unusedSimpArgs false
set_option linter.unusedSimpArgs false
open Go Go.Ev
namespace Go.Proofs.YtafndpggajdmiaaDoor
def letter (c : Int) : Bool := (decide (97 ≤ c) && decide (c ≤ 122)) || ((decide (65 ≤ c) && decide (c ≤ 90)) || c == 95)
def digit (c : Int) : Bool := decide (48 ≤ c) && decide (c ≤ 57)
theorem ls_Letter_ok (c : Int) : ls_Letter c = some (letter c) := by
 apply ls_Letter_run
 simp only [ls_Letter_B, letter, cnd_ite, ge_iff_le]
 cases decide (97 ≤ c) <;> cases decide (c ≤ 122) <;> cases decide (65 ≤ c) <;> cases decide (c ≤ 90) <;> simp
theorem ls_Digit_ok (c : Int) : ls_Digit c = some (digit c) := by
 apply ls_Digit_run
 simp only [ls_Digit_B, digit, cnd_ite, ge_iff_le]
 cases decide (48 ≤ c) <;> simp
def inName (c : UInt8) : Bool := letter c.toNat || digit c.toNat
def isName : Str → Bool
 | [] => false
 | c :: s => letter c.toNat && s.all inName
open Go Go.Ev
theorem w32 {n : Int} (h : 0 ≤ n ∧ n < 2147483648) : IntKind.wrap .i32 n = n := by rw [IntKind.wrap_i32]; omega
def codeI (s : Str) : Int × Int := match decR s with
 | some (c, k) => ((c : Int), (k : Int))
 | none => (0, 0)
theorem codeI_of {s : Str} (hne : s ≠ []) {d : Nat × Nat} (h : decS s = d) : codeI s = if d.1 = 65533 ∧ d.2 = 1 then (0, 0) else ((d.1 : Int), (d.2 : Int)) := by
 unfold codeI decR
 rw [if_neg hne, h]
 split
 ·rename_i c k he
  split at he
  ·simp at he
  ·rename_i hb
   rw [if_neg hb]; simp only [Option.some.injEq] at he; rw [he]
 ·rename_i he
  split at he
  ·rename_i hb; rw [if_pos hb]
  ·simp at he
theorem decS_pos {s : Str} (hne : s ≠ []) : 1 ≤ (decS s).2 := by
 rw [decR_decodeN hne]
 unfold Go.Lib.decodeN
 repeat' split
 all_goals simp
theorem decS_small {s : Str} (hne : s ≠ []) : (decS s).1 ≤ 1114111 ∧ (decS s).2 ≤ 4 := by
 rw [decR_decodeN hne]
 have b0 : (s.getD 0 0).toNat < 256 := UInt8.toNat_lt _
 unfold Go.Lib.decodeN
 repeat' split
 all_goals (constructor <;> simp only <;> omega)
theorem tslc_dropI {α : Type} (l : List α) (k : Nat) (h : k ≤ l.length) : tslc l (k : Int) (l.length : Int) = some (l.drop k) := by
 unfold tslc
 simp; omega
theorem drop_ne {s : Str} {i : Nat} (h : i < s.length) : s.drop i ≠ [] := by
 intro e; have := congrArg List.length e; simp at this; omega
theorem ls_Code_nat (s : Str) (i : Nat) (h : i < s.length) (hs : s.length ≤ 1073741824) : ls_Code s (i : Int) = some (codeI (s.drop i)) := by
 apply ls_Code_run
 have e1 : decide ((i : Int) < 0) = false := by simp
 have e2 : decide ((i : Int) ≥ (s.length : Int)) = false := by simp; omega
 have e3 : uf_DecodeRuneInString (s.drop i) = some (((decS (s.drop i)).1 : Int), ((decS (s.drop i)).2 : Int)) := uf_DecodeRuneInString_run rfl
 have hne := drop_ne h
 have p1 := decS_pos hne
 have p2 := decS_small hne
 simp only [ls_Code_B, e1, e2, cnd_f, tslc_dropI s i (by omega), bnd_s, e3, codeI_of hne rfl]
 obtain ⟨c, hc⟩ : ∃ c, (decS (s.drop i)).1 = c := ⟨_, rfl⟩
 obtain ⟨k, hk⟩ : ∃ k, (decS (s.drop i)).2 = k := ⟨_, rfl⟩
 rw [hk] at p1
 rw [hc, hk] at p2
 rw [hc, hk]
 rw [wn (by omega)]
 by_cases h1 : c = 65533
 ·have d1 : ((c : Int) == 65533) = true := by simp; omega
  by_cases h2 : k = 1
  ·have d2 : decide ((k : Int) < 2) = true := by simp; omega
   rw [if_pos ⟨h1, h2⟩, d1, d2]; rfl
  ·have d2 : decide ((k : Int) < 2) = false := by simp; omega
   rw [if_neg (by rintro ⟨_, h⟩; exact h2 h), d1, d2]; rfl
 ·have d1 : ((c : Int) == 65533) = false := by simp; omega
  rw [if_neg (by rintro ⟨h, _⟩; exact h1 h), d1]; rfl
def intN (l : List Nat) : List Int := l.map fun n : Nat => (n : Int)
theorem codeI_none {s : Str} (h : decR s = none) : codeI s = (0, 0) := by unfold codeI; rw [h]
theorem codeI_some {s : Str} {c k : Nat} (h : decR s = some (c, k)) : codeI s = ((c : Int), (k : Int)) := by unfold codeI; rw [h]
theorem okC_le {c : Nat} (h : okC c) : c ≤ 1114111 := by unfold okC at h; omega
theorem cp_loop {β ρ : Type} {b : (β × Int) → Option ((β × Int) ⊕ ρ)} (s : Str) (hs : s.length ≤ 1073741824) (g : β → Nat → β) (F : Option (List Nat) → β → ρ) (I : Nat → β → Prop)
  (hend : ∀ a, I s.length a → b (a, (s.length : Int)) = some (.inr (F (some []) a)))
  (hbad : ∀ (i : Nat) a, i < s.length → I i a → decR (s.drop i) = none → b (a, (i : Int)) = some (.inr (F none a)))
  (hcons : ∀ (i : Nat) a (c k : Nat), i < s.length → I i a → decR (s.drop i) = some (c, k) → i + k ≤ s.length → okC c → 1 ≤ k → k ≤ 4 → (b (a, (i : Int)) = some (.inl (g a c, ((i + k : Nat) : Int))) ∧ I (i + k) (g a c) ∧ ∀ r : Option (List Nat), F (r.map (c :: ·)) a = F r (g a c)) ∨ ∀ r : Option (List Nat), b (a, (i : Int)) = some (.inr (F (r.map (c :: ·)) a))) :
  ∀ (i : Nat) a, i ≤ s.length → I i a → tloop b (a, (i : Int)) = some (F (cps (s.drop i)) a) := by
 have key : ∀ (n i : Nat) a, s.length - i ≤ n → i ≤ s.length → I i a → tloop b (a, (i : Int)) = some (F (cps (s.drop i)) a) := by
  intro n
  induction n with
  | zero =>
   intro i a h1 h2 hI
   have : i = s.length := by omega
   subst this
   rw [tloop_exit (hend a hI), List.drop_length, cps_nil]
  | succ n ih =>
   intro i a h1 h2 hI
   by_cases hi : i = s.length
   ·subst hi
    rw [tloop_exit (hend a hI), List.drop_length, cps_nil]
   ·have hlt : i < s.length := by omega
    cases hd : decR (s.drop i) with
    | none => rw [tloop_exit (hbad i a hlt hI hd), cps_none (drop_ne hlt) hd]
    | some x =>
     obtain ⟨c, k⟩ := x
     obtain ⟨h3, h4, h5, h6, h7, h8⟩ := decR_some hd
     rw [List.length_drop] at h8
     rw [cps_some hd, List.drop_drop]
     rcases hcons i a c k hlt hI hd (by omega) h3 h6 h7 with ⟨hb, hI', hF⟩ | hb
     ·rw [tloop_next hb, ih (i + k) _ (by omega) (by omega) hI', hF]
     ·exact tloop_exit (hb _)
 exact fun i a h hI => key _ i a (Nat.le_refl _) h hI
theorem wk {i k : Nat} (h : i + k ≤ 1073741824) : IntKind.wrap .i64 ((i : Int) + (k : Int)) = ((i + k : Nat) : Int) := by rw [wi (by omega)]; omega
theorem lt_true {i n : Nat} (h : i < n) : decide ((i : Int) < (n : Int)) = true := by simp; omega
def codesF : Option (List Nat) → List Int → (List Int) ⊕ Unit
 | some l, a => .inl (a ++ intN l)
 | none, _ => .inr ()
def unitsF : Option (List Nat) → List Int → (List Int) ⊕ Unit
 | some l, a => .inl (a ++ u16L l)
 | none, _ => .inr ()
def signN (c : Nat) : Bool := c == 9 || c == 10 || c == 13 || (decide (32 ≤ c) && decide (c ≤ 65535))
def srcB (s : Str) : Bool := match cps s with
 | some l => l.all signN
 | none => false
theorem ls_sign_ok (c : Nat) : ls_sign (c : Int) = some (signN c) := by
 apply ls_sign_run
 have e : ∀ n : Nat, ((c : Int) == (n : Int)) = (c == n) := by intro n; rw [Bool.eq_iff_iff]; simp only [beq_iff_eq]; omega
 have e9 := e 9
 have e10 := e 10
 have e13 := e 13
 have e1 : decide ((c : Int) ≥ 32) = decide (32 ≤ c) := by rw [Bool.eq_iff_iff]; simp; omega
 have e2 : decide ((c : Int) ≤ 65535) = decide (c ≤ 65535) := by rw [Bool.eq_iff_iff]; simp; omega
 simp only [ls_sign_B]
 rw [show ((9 : Nat) : Int) = 9 from rfl] at e9
 rw [show ((10 : Nat) : Int) = 10 from rfl] at e10
 rw [show ((13 : Nat) : Int) = 13 from rfl] at e13
 rw [e9, e10, e13, e1, e2]
 unfold signN
 cases c == 9 <;> cases c == 10 <;> cases c == 13 <;> cases decide (32 ≤ c) <;> rfl
def srcF : Option (List Nat) → Unit → Unit ⊕ Unit
 | some l, _ => bif l.all signN then .inl () else .inr ()
 | none, _ => .inr ()
theorem ls_Source_ok (s : Str) (hs : s.length ≤ 1073741824) : ls_Source s = some (srcB s) := by
 apply ls_Source_run
 have h := cp_loop (b := fun x : Unit × Int => bnd (ls_Source_l1T s x.2) fun r => elim r (fun i => some (.inl ((), i))) (fun e => some (.inr e))) s hs (fun a c => a) srcF (fun i a => True)
  (fun a _ => by simp only [ls_Source_l1T, end_lt, cnd_f, bnd_s, elim_inr]; rfl)
  (fun i a hi _ hd => by simp only [ls_Source_l1T, lt_true hi, cnd_t, ls_Code_nat s i hi hs, codeI_none hd, bnd_s]; rfl)
  (fun i a c k hi hI hd hk hc h1 h4 => by
   have e : decide ((k : Int) > 0) = true := by simp; omega
   simp only [ls_Source_l1T, lt_true hi, cnd_t, ls_Code_nat s i hi hs, codeI_some hd, bnd_s, e, ls_sign_ok, wk (show i + k ≤ 1073741824 by omega)]
   cases hg : signN c
   ·right; intro r
    cases r with
    | none => rfl
    | some r => simp [srcF, hg, cnd]
   ·left
    exact ⟨rfl, trivial, fun r => by cases r <;> simp [srcF, hg]⟩) 0 () (by omega) trivial
 -- the same loop, without the unit
 have same : ∀ (n : Nat) (i : Int) (r : Unit ⊕ Unit), tloopN (fun x : Unit × Int => bnd (ls_Source_l1T s x.2) fun r => elim r (fun i => some (.inl ((), i))) (fun e => some (.inr e))) n ((), i) = some r → tloopN (ls_Source_l1T s) n i = some r := by
  intro n
  induction n with
  | zero => intro i r h; simp [tloopN] at h
  | succ n ih =>
   intro i r h
   simp only [tloopN] at h ⊢
   cases hb : ls_Source_l1T s i with
   | none => rw [hb] at h; simp [bnd] at h
   | some x =>
    rw [hb] at h
    cases x with
    | inl j => exact ih j r h
    | inr e => exact h
 obtain ⟨n, hn⟩ := tloop_some.1 h
 have h' := tloop_some.2 ⟨n, same n _ _ hn⟩
 rw [List.drop_zero] at h'
 simp only [ls_Source_B]
 rw [show tloop (ls_Source_l1T s) 0 = _ from h']
 unfold srcB
 cases cps s with
 | none => rfl
 | some l => simp only [bnd_s, srcF]; cases l.all signN <;> rfl
theorem wu32 {n : Int} (h : 0 ≤ n ∧ n < 4294967296) : IntKind.wrap .u32 n = n := by rw [IntKind.wrap_u32]; omega
theorem lead2 : ∀ x : Fin 32, bits .or .u8 192 (IntKind.wrap .u8 (x.val : Int)) = ((192 + x.val : Nat) : Int) := by decide +kernel
theorem lead3 : ∀ x : Fin 16, bits .or .u8 224 (IntKind.wrap .u8 (x.val : Int)) = ((224 + x.val : Nat) : Int) := by decide +kernel
theorem lead4 : ∀ x : Fin 8, bits .or .u8 240 (IntKind.wrap .u8 (x.val : Int)) = ((240 + x.val : Nat) : Int) := by decide +kernel
theorem cont8 : ∀ x : Fin 256, bits .or .u8 128 (bits .and .u8 (x.val : Int) 63) = ((128 + x.val % 64 : Nat) : Int) := by decide +kernel
theorem contN (c : Nat) : bits .or .u8 128 (bits .and .u8 (IntKind.wrap .u8 (c : Int)) 63) = ((128 + c % 64 : Nat) : Int) := by
 have e : IntKind.wrap .u8 (c : Int) = ((c % 256 : Nat) : Int) := by rw [IntKind.wrap_u8]; omega
 rw [e, cont8 ⟨c % 256, by omega⟩]
 simp only
 rw [show c % 256 % 64 = c % 64 by omega]
theorem fdivN (c n : Nat) (k : Nat) (h : n = 2 ^ k) (hk : k ≤ 32) : Int.fdiv (c : Int) (2 ^ min (Int.toNat (k : Int)) 32) = ((c / n : Nat) : Int) := by
 have : min (Int.toNat (k : Int)) 32 = k := by omega
 rw [this, Int.fdiv_eq_ediv_of_nonneg _ (Int.le_of_lt (Int.pow_pos (by decide)))]
 subst h
 simp
theorem fd6 (c : Nat) : Int.fdiv (c : Int) (2 ^ min (Int.toNat 6) 32) = ((c / 64 : Nat) : Int) := fdivN c 64 6 rfl (by decide)
theorem fd12 (c : Nat) : Int.fdiv (c : Int) (2 ^ min (Int.toNat 12) 32) = ((c / 4096 : Nat) : Int) := fdivN c 4096 12 rfl (by decide)
theorem fd18 (c : Nat) : Int.fdiv (c : Int) (2 ^ min (Int.toNat 18) 32) = ((c / 262144 : Nat) : Int) := fdivN c 262144 18 rfl (by decide)
theorem intsT_enc {c : Nat} (h : okC c) : intsT (encC c) = (encN c).map fun n : Nat => (n : Int) := by
 unfold intsT encC
 rw [List.map_map]
 apply List.map_congr_left
 intro x hx
 simp only [Function.comp_apply]
 rw [u8_toNat (encN_lt h x hx)]
set_option maxRecDepth 100000 in
theorem AppendRune_ok (b : List Int) (c : Nat) (hc : okC c) (hb : b.length + 4 ≤ 274877906944) : uf_AppendRune b (c : Int) = some (b ++ intsT (encC c)) := by
 have hle := okC_le hc
 have w : IntKind.wrap .u32 (c : Int) = (c : Int) := wu32 (by omega)
 have ta : ∀ l : List Int, l.length ≤ 4 → tapp b l = some (b ++ l) := fun l hl => tapp_ok (by rw [lim_val]; omega)
 apply uf_AppendRune_run
 simp only [uf_AppendRune_B, w]
 rw [intsT_enc hc]
 by_cases c1 : c < 128
 ·have d : decide ((c : Int) ≤ 127) = true := by simp; omega
  have e : IntKind.wrap .u8 (c : Int) = (c : Int) := by rw [IntKind.wrap_u8]; omega
  simp only [d, cnd_t, e, ta [(c : Int)] (by simp), bnd_s]
  unfold encN; rw [if_pos c1]; rfl
 have d1 : decide ((c : Int) ≤ 127) = false := by simp; omega
 have na : uf_appendRuneNonASCII b (c : Int) = some (b ++ (encN c).map fun n : Nat => (n : Int)) := by
  apply uf_appendRuneNonASCII_run
  simp only [uf_appendRuneNonASCII_B, w, fd6, fd12, fd18, contN]
  by_cases c2 : c < 2048
  ·have d : decide ((c : Int) ≤ 2047) = true := by simp; omega
   have e := lead2 ⟨c / 64, by omega⟩
   simp only at e
   simp only [d, cnd_t, e, ta _ (show ([((192 + c / 64 : Nat) : Int), ((128 + c % 64 : Nat) : Int)]).length ≤ 4 by simp), bnd_s]
   unfold encN; rw [if_neg c1, if_pos c2]; rfl
  have d2 : decide ((c : Int) ≤ 2047) = false := by simp; omega
  simp only [d2, cnd_f]
  by_cases c3 : c < 65536
  ·have e := lead3 ⟨c / 4096, by omega⟩
   simp only at e
   have t3 := ta ([((224 + c / 4096 : Nat) : Int), ((128 + c / 64 % 64 : Nat) : Int), ((128 + c % 64 : Nat) : Int)]) (by simp)
   have fin : (encN c).map (fun n : Nat => (n : Int)) = [((224 + c / 4096 : Nat) : Int), ((128 + c / 64 % 64 : Nat) : Int), ((128 + c % 64 : Nat) : Int)] := by
    unfold encN; rw [if_neg c1, if_neg c2, if_pos c3]; rfl
   simp only [e, t3, bnd_s, fin]
   by_cases c4 : c < 55296
   ·have d : decide ((c : Int) < 55296) = true := by simp; omega
    simp only [d, cnd_t]
   ·have d : decide ((c : Int) < 55296) = false := by simp; omega
    have d' : decide ((57343 : Int) < (c : Int)) = true := by simp; unfold okC at hc; omega
    have d'' : decide ((c : Int) ≤ 65535) = true := by simp; omega
    simp only [d, d', d'', cnd_t, cnd_f]
  ·have e := lead4 ⟨c / 262144, by omega⟩
   simp only at e
   have t4 := ta ([((240 + c / 262144 : Nat) : Int), ((128 + c / 4096 % 64 : Nat) : Int), ((128 + c / 64 % 64 : Nat) : Int), ((128 + c % 64 : Nat) : Int)]) (by simp)
   have fin : (encN c).map (fun n : Nat => (n : Int)) = [((240 + c / 262144 : Nat) : Int), ((128 + c / 4096 % 64 : Nat) : Int), ((128 + c / 64 % 64 : Nat) : Int), ((128 + c % 64 : Nat) : Int)] := by
    unfold encN; rw [if_neg c1, if_neg c2, if_neg c3]; rfl
   have d : decide ((c : Int) < 55296) = false := by simp; omega
   have d' : decide ((57343 : Int) < (c : Int)) = true := by simp; omega
   have d'' : decide ((c : Int) ≤ 65535) = false := by simp; omega
   have d3 : decide ((c : Int) > 65535) = true := by simp; omega
   have d4 : decide ((c : Int) ≤ 1114111) = true := by simp; omega
   simp only [d, d', d'', d3, d4, cnd_t, cnd_f, e, t4, bnd_s, fin]
 simp only [d1, cnd_f, na, bnd_s]
def joinF : Option (List Nat) → List Int → (List Int) ⊕ Unit
 | some l, a => .inl (a ++ intsT (encL8 l))
 | none, _ => .inr ()
theorem intsT_append (a b : Str) : intsT (a ++ b) = intsT a ++ intsT b := by simp [intsT]
theorem joinF_cons (c : Nat) (r : Option (List Nat)) (a : List Int) : joinF (r.map (c :: ·)) a = joinF r (a ++ intsT (encC c)) := by
 cases r with
 | none => rfl
 | some l => simp only [Option.map_some, joinF]; congr 1; rw [List.append_assoc, ← intsT_append]; simp [encL8]
theorem enc_ints_len (c : Nat) : (intsT (encC c)).length ≤ 4 := by
 have := encC_pos c; simp only [intsT, List.length_map]; exact this.2
set_option maxRecDepth 100000 in
theorem join_loop (us : List Int) (hu : us.length ≤ 1073741824) : ∀ (n i : Nat) (a : List Int), us.length - i ≤ n → i ≤ us.length → a.length ≤ 4 * i → tloop (ls_Join_l1T us) (a, (i : Int)) = some (joinF (joinU (us.drop i)) a) := by
 intro n
 induction n with
 | zero =>
  intro i a h1 h2 h3
  have : i = us.length := by omega
  subst this
  rw [List.drop_length]
  exact tloop_exit (by simp only [ls_Join_l1T, end_lt, cnd_f]; simp [joinU, joinF, encL8, intsT])
 | succ n ih =>
  intro i a h1 h2 h3
  by_cases hi : i = us.length
  ·subst hi
   rw [List.drop_length]
   exact tloop_exit (by simp only [ls_Join_l1T, end_lt, cnd_f]; simp [joinU, joinF, encL8, intsT])
  have hlt : i < us.length := by omega
  obtain ⟨u, hu0⟩ : ∃ u, us[i]? = some u := ⟨_, List.getElem?_eq_getElem hlt⟩
  have e1 : nthI us (i : Int) = some u := by rw [nthI_nat]; exact hu0
  have hd : us.drop i = u :: us.drop (i + 1) := by
   rw [List.drop_eq_getElem_cons hlt]; congr 1
   rw [List.getElem?_eq_getElem hlt] at hu0; exact Option.some.inj hu0
  have e2 : IntKind.wrap .i64 ((i : Int) + 1) = ((i + 1 : Nat) : Int) := wadd (by omega)
  have app : ∀ c : Nat, okC c → uf_AppendRune a (c : Int) = some (a ++ intsT (encC c)) := fun c hc => AppendRune_ok a c hc (by omega)
  have one : 0 ≤ u → u ≤ 65535 → ¬ (55296 ≤ u ∧ u ≤ 57343) → ls_Join_l1T us (a, (i : Int)) = some (.inl (a ++ intsT (encC u.toNat), ((i + 1 : Nat) : Int))) := by
   intro q1 q2 q3
   have hk : okC u.toNat := by unfold okC; omega
   have hu' : IntKind.wrap .i32 u = ((u.toNat : Nat) : Int) := by rw [w32 (by omega)]; omega
   have d0 : decide (u < 0) = false := by simp; omega
   have d1 : decide (u > 65535) = false := by simp; omega
   simp only [ls_Join_l1T, lt_true hlt, cnd_t, e1, bnd_s, d0, d1, cnd_f, hu', app _ hk, e2]
   by_cases q4 : u ≥ 56320
   ·have d2 : decide (u ≥ 56320) = true := by simpa using q4
    have d3 : decide (u ≤ 57343) = false := by simp; omega
    have d4 : decide (u ≥ 55296) = true := by simp; omega
    have d5 : decide (u < 56320) = false := by simp; omega
    simp only [d2, d3, d4, d5, cnd_t, cnd_f]
   ·have d2 : decide (u ≥ 56320) = false := by simp; omega
    have d4 : decide (u ≥ 55296) = false := by simp; omega
    simp only [d2, d4, cnd_f]
  by_cases b1 : u < 0 ∨ 65535 < u ∨ (56320 ≤ u ∧ u ≤ 57343)
  ·have hj : joinU (us.drop i) = none := by rw [hd]; unfold joinU; rw [if_pos b1]
   rw [hj]
   refine tloop_exit ?_
   simp only [ls_Join_l1T, lt_true hlt, cnd_t, e1, bnd_s]
   by_cases q0 : u < 0
   ·have d0 : decide (u < 0) = true := by simpa using q0
    simp only [d0, cnd_t, joinF]
   ·have d0 : decide (u < 0) = false := by simpa using q0
    by_cases q1 : u > 65535
    ·have d1 : decide (u > 65535) = true := by simpa using q1
     simp only [d0, d1, cnd_t, cnd_f, joinF]
    ·have d1 : decide (u > 65535) = false := by simpa using q1
     have d2 : decide (u ≥ 56320) = true := by simp; omega
     have d3 : decide (u ≤ 57343) = true := by simp; omega
     simp only [d0, d1, d2, d3, cnd_t, cnd_f, joinF]
  ·by_cases b2 : 55296 ≤ u ∧ u < 56320
   ·have d0 : decide (u < 0) = false := by simp; omega
    have d1 : decide (u > 65535) = false := by simp; omega
    have d2 : decide (u ≥ 56320) = false := by simp; omega
    have d4 : decide (u ≥ 55296) = true := by simp; omega
    have d5 : decide (u < 56320) = true := by simp; omega
    by_cases hi1 : i + 1 = us.length
    ·have hj : joinU (us.drop i) = none := by
      rw [hd, show us.drop (i + 1) = [] by rw [hi1]; simp]
      unfold joinU
      rw [if_neg b1, if_pos b2.1, if_pos b2.2]
     rw [hj]
     refine tloop_exit ?_
     have d6 : (((i + 1 : Nat) : Int) == (us.length : Int)) = true := by rw [hi1]; simp
     simp only [ls_Join_l1T, lt_true hlt, cnd_t, e1, bnd_s, d0, d1, d2, d4, d5, cnd_f, e2, d6, joinF]
    ·have hlt1 : i + 1 < us.length := by omega
     obtain ⟨v, hv0⟩ : ∃ v, us[i + 1]? = some v := ⟨_, List.getElem?_eq_getElem hlt1⟩
     have e3 : nthI us ((i + 1 : Nat) : Int) = some v := by rw [nthI_nat]; exact hv0
     have hd1 : us.drop (i + 1) = v :: us.drop (i + 2) := by
      rw [List.drop_eq_getElem_cons hlt1]; congr 1
      rw [List.getElem?_eq_getElem hlt1] at hv0; exact Option.some.inj hv0
     have d6 : (((i + 1 : Nat) : Int) == (us.length : Int)) = false := by simp; omega
     by_cases b3 : 56320 ≤ v ∧ v ≤ 57343
     ·have hj : joinU (us.drop i) = (joinU (us.drop (i + 2))).map ((65536 + 1024 * (u.toNat - 55296) + (v.toNat - 56320)) :: ·) := by
       rw [hd, hd1]
       conv => lhs; unfold joinU
       rw [if_neg b1, if_pos b2.1, if_pos b2.2]
       simp only
       rw [if_pos b3]
      have hq1 : u.toNat - 55296 < 1024 := by omega
      have hq2 : v.toNat - 56320 < 1024 := by clear hq1; omega
      have hk := okC_pair _ _ hq1 hq2
      have d7 : decide (v < 56320) = false := by simp; omega
      have d8 : decide (v > 57343) = false := by simp; omega
      have e5 : IntKind.wrap .i64 (((i + 1 : Nat) : Int) + 1) = ((i + 2 : Nat) : Int) := wadd (by omega)
      have e6 : IntKind.wrap .i32 (IntKind.wrap .i64 ((IntKind.wrap .i64 ((IntKind.wrap .i64 (65536 + (IntKind.wrap .i64 (1024 * (IntKind.wrap .i64 (u - 55296)))))) + v)) - 56320)) = ((65536 + 1024 * (u.toNat - 55296) + (v.toNat - 56320) : Nat) : Int) := by
       have a1 : IntKind.wrap .i64 (u - 55296) = u - 55296 := wi (by omega)
       have a2 : IntKind.wrap .i64 (1024 * (u - 55296)) = 1024 * (u - 55296) := wi (by omega)
       have a3 : IntKind.wrap .i64 (65536 + 1024 * (u - 55296)) = 65536 + 1024 * (u - 55296) := wi (by omega)
       have a4 : IntKind.wrap .i64 (65536 + 1024 * (u - 55296) + v) = 65536 + 1024 * (u - 55296) + v := wi (by omega)
       have a5 : IntKind.wrap .i64 (65536 + 1024 * (u - 55296) + v - 56320) = 65536 + 1024 * (u - 55296) + v - 56320 := wi (by omega)
       rw [a1, a2, a3, a4, a5, w32 (by omega)]
       have u1 : ((u.toNat - 55296 : Nat) : Int) = u - 55296 := by omega
       have v1 : ((v.toNat - 56320 : Nat) : Int) = v - 56320 := by clear hq1 hq2 hk u1; omega
       rw [Int.natCast_add, Int.natCast_add, Int.natCast_mul, u1, v1]
       show 65536 + 1024 * (u - 55296) + v - 56320 = 65536 + 1024 * (u - 55296) + (v - 56320)
       omega
      rw [hj, joinF_cons]
      rw [tloop_next (s' := (a ++ intsT (encC (65536 + 1024 * (u.toNat - 55296) + (v.toNat - 56320))), ((i + 2 : Nat) : Int))) (by
       simp only [ls_Join_l1T, lt_true hlt, cnd_t, e1, bnd_s, d0, d1, d2, d4, d5, cnd_f, e2, d6, e3, d7, d8, e6, app _ hk, e5])]
      have := enc_ints_len (65536 + 1024 * (u.toNat - 55296) + (v.toNat - 56320))
      exact ih (i + 2) _ (by omega) (by omega) (by rw [List.length_append]; omega)
     ·have hj : joinU (us.drop i) = none := by
       rw [hd, hd1]
       unfold joinU
       rw [if_neg b1, if_pos b2.1, if_pos b2.2]
       simp only
       rw [if_neg b3]
      rw [hj]
      refine tloop_exit ?_
      simp only [ls_Join_l1T, lt_true hlt, cnd_t, e1, bnd_s, d0, d1, d2, d4, d5, cnd_f, e2, d6, e3, joinF]
      by_cases q : v < 56320
      ·have d7 : decide (v < 56320) = true := by simpa using q
       simp only [d7, cnd_t]
      ·have d7 : decide (v < 56320) = false := by simpa using q
       have d8 : decide (v > 57343) = true := by simp; omega
       simp only [d7, d8, cnd_t, cnd_f]
   ·have hj : joinU (us.drop i) = (joinU (us.drop (i + 1))).map (u.toNat :: ·) := by
     rw [hd]
     conv => lhs; unfold joinU
     rw [if_neg b1]
     split
     ·rw [if_neg (by omega)]
     ·rfl
    have := enc_ints_len u.toNat
    rw [hj, joinF_cons, tloop_next (one (by omega) (by omega) (by omega))]
    exact ih (i + 1) _ (by omega) (by omega) (by rw [List.length_append]; omega)
theorem bytesT_intsT (s : Str) : bytesT (intsT s) = s := by
 unfold bytesT intsT
 rw [List.map_map]
 conv => rhs; rw [← List.map_id s]
 apply List.map_congr_left
 intro b _
 simp
theorem ls_Join_ok (us : List Int) (hu : us.length ≤ 1073741824) : ls_Join us = some (match joinU us with | some l => (encL8 l, true) | none => ([], false)) := by
 apply ls_Join_run
 have h := join_loop us hu us.length 0 [] (by omega) (by omega) (by simp)
 rw [List.drop_zero] at h
 simp only [ls_Join_B]
 rw [show tloop (ls_Join_l1T us) ([], 0) = _ from h]
 cases joinU us with
 | none => rfl
 | some l => simp only [bnd_s, joinF, elim_inl, List.nil_append, bytesT_intsT]
def joinG : Option (List Nat) → Str → Str ⊕ Unit
 | some l, a => .inl (a ++ encL8 l)
 | none, _ => .inr ()
theorem dw_head {α : Type} {p : α → Bool} {y : α} {r : List α} : ∀ {l : List α}, l.dropWhile p = y :: r → p y = false
 | [], h => by simp at h
 | x :: l, h => by
  rw [List.dropWhile_cons] at h
  split at h
  ·exact dw_head h
  ·rename_i hx; cases h; simpa using hx
theorem tw_all {α : Type} {p : α → Bool} : ∀ {l : List α}, (∀ x ∈ l, p x = true) → l.takeWhile p = l
 | [], _ => rfl
 | x :: l, h => by rw [List.takeWhile_cons, if_pos (h x (by simp)), tw_all fun y hy => h y (by simp [hy])]
def lnsA : Str → Str → List Str
 | a, [] => [a]
 | a, c :: r =>
  if c = 10 then a :: lnsA [] r
  else if c = 13 then (match r with
   | d :: r' => if d = 10 then a :: lnsA [] r' else a :: lnsA [] (d :: r')
   | [] => a :: lnsA [] [])
  else lnsA (a ++ [c]) r
termination_by _ s => s.length
def lns (s : Str) : List Str := lnsA [] s
theorem lnsA_nil (a : Str) : lnsA a [] = [a] := by unfold lnsA; rfl
theorem lnsA_10 (a r : Str) : lnsA a (10 :: r) = a :: lnsA [] r := by rw [lnsA.eq_def]; simp
theorem lnsA_crlf (a r : Str) : lnsA a (13 :: 10 :: r) = a :: lnsA [] r := by rw [lnsA.eq_def]; simp
theorem lnsA_cr (a r : Str) (h : r.head? ≠ some 10) : lnsA a (13 :: r) = a :: lnsA [] r := by
 cases r with
 | nil => rw [lnsA.eq_def]; simp
 | cons d r' =>
  have : d ≠ 10 := by simpa using h
  rw [lnsA.eq_def]; simp [this]
theorem lnsA_other (a r : Str) {c : UInt8} (h1 : c ≠ 10) (h2 : c ≠ 13) : lnsA a (c :: r) = lnsA (a ++ [c]) r := by rw [lnsA.eq_def]; simp [h1, h2]
def wt (l : List Str) : Nat := sumL (fun x => x.length + 1) l
theorem wt_nil : wt [] = 0 := rfl
theorem wt_cons (x : Str) (l : List Str) : wt (x :: l) = x.length + 1 + wt l := rfl
theorem wt_len : ∀ (l : List Str), l.length ≤ wt l
 | [] => Nat.le_refl _
 | x :: l => by have := wt_len l; rw [wt_cons, List.length_cons]; omega
theorem wt_mem {x : Str} : ∀ {l : List Str}, x ∈ l → x.length + 1 ≤ wt l
 | y :: l, h => by
  rw [wt_cons]
  rcases List.mem_cons.1 h with rfl | h
  ·omega
  ·have := wt_mem h; omega
theorem wt_app : ∀ (l m : List Str), wt (l ++ m) = wt l + wt m
 | [], m => by simp [wt_nil]
 | x :: l, m => by rw [List.cons_append, wt_cons, wt_cons, wt_app l m]; omega
theorem wt_lnsA : ∀ (n : Nat) (a s : Str), s.length ≤ n → wt (lnsA a s) ≤ a.length + s.length + 1 := by
 intro n
 induction n with
 | zero =>
  intro a s h
  have : s = [] := List.length_eq_zero_iff.1 (by omega)
  subst this; rw [lnsA_nil, wt_cons, wt_nil]; simp
 | succ n ih =>
  intro a s h
  cases s with
  | nil => rw [lnsA_nil, wt_cons, wt_nil]; simp
  | cons c r =>
   simp only [List.length_cons] at h ⊢
   by_cases h10 : c = 10
   ·subst h10
    rw [lnsA_10, wt_cons]
    have := ih [] r (by omega); simp only [List.length_nil] at this; omega
   by_cases h13 : c = 13
   ·subst h13
    by_cases hd : r.head? = some 10
    ·cases r with
     | nil => simp at hd
     | cons d r' =>
      have : d = 10 := by simpa using hd
      subst this
      simp only [List.length_cons] at h ⊢
      rw [lnsA_crlf, wt_cons]
      have := ih [] r' (by omega); simp only [List.length_nil] at this; omega
    ·rw [lnsA_cr a r hd, wt_cons]
     have := ih [] r (by omega); simp only [List.length_nil] at this; omega
   ·rw [lnsA_other a r h10 h13]
    have := ih (a ++ [c]) r (by omega)
    simp only [List.length_append, List.length_singleton] at this; omega
theorem wt_lns (s : Str) : wt (lns s) ≤ s.length + 1 := by
 have := wt_lnsA s.length [] s (Nat.le_refl _); simp only [List.length_nil] at this; unfold lns; omega
def noEol (s : Str) : Prop := ∀ c ∈ s, c ≠ 10 ∧ c ≠ 13
theorem lnsA_front : ∀ (a x r : Str), noEol x → lnsA a (x ++ r) = lnsA (a ++ x) r
 | a, [], r, _ => by simp
 | a, c :: x, r, h => by
  have hc := h c (by simp)
  rw [List.cons_append, lnsA_other a (x ++ r) hc.1 hc.2, lnsA_front (a ++ [c]) x r (fun d hd => h d (by simp [hd]))]
  simp
theorem lns_step (s : Str) : ∃ x rest, s = x ++ rest ∧ noEol x ∧
  ((rest = [] ∧ lns s = [x]) ∨ ∃ r, lns s = x :: lns r ∧ (rest = 10 :: r ∨ rest = 13 :: 10 :: r ∨ (rest = 13 :: r ∧ r.head? ≠ some 10))) := by
 refine ⟨s.takeWhile (fun c => c != 10 && c != 13), s.dropWhile (fun c => c != 10 && c != 13), (List.takeWhile_append_dropWhile).symm, ?_, ?_⟩
 ·intro c hc
  have := List.all_eq_true.1 (List.all_takeWhile (l := s) (p := fun c => c != 10 && c != 13)) c hc
  simpa using this
 ·have hno : noEol (s.takeWhile (fun c => c != 10 && c != 13)) := by
   intro c hc
   have := List.all_eq_true.1 (List.all_takeWhile (l := s) (p := fun c => c != 10 && c != 13)) c hc
   simpa using this
  have hs : lns s = lnsA (s.takeWhile (fun c => c != 10 && c != 13)) (s.dropWhile (fun c => c != 10 && c != 13)) := by
   conv => lhs; rw [← List.takeWhile_append_dropWhile (l := s) (p := fun c => c != 10 && c != 13)]
   unfold lns; rw [lnsA_front _ _ _ hno, List.nil_append]
  rw [hs]
  cases hd : s.dropWhile (fun c => c != 10 && c != 13) with
  | nil => left; exact ⟨rfl, lnsA_nil _⟩
  | cons c r =>
   right
   have hc : c = 10 ∨ c = 13 := by
    have := dw_head hd
    by_cases e : c = 10
    ·exact .inl e
    ·right; simpa [e] using this
   rcases hc with rfl | rfl
   ·exact ⟨r, lnsA_10 _ _, .inl rfl⟩
   ·by_cases hh : r.head? = some 10
    ·cases r with
     | nil => simp at hh
     | cons d r' =>
      have : d = 10 := by simpa using hh
      subst this
      exact ⟨r', lnsA_crlf _ _, .inr (.inl rfl)⟩
    ·exact ⟨r, lnsA_cr _ _ hh, .inr (.inr ⟨rfl, hh⟩)⟩
theorem lns_ne (s : Str) : lns s ≠ [] := by
 obtain ⟨x, rest, _, _, h⟩ := lns_step s
 rcases h with ⟨_, h⟩ | ⟨r, h, _⟩ <;> rw [h] <;> simp
def bl (c : UInt8) : Bool := c == 9 || c == 32
def bare (s : Str) : Bool := s.all bl
def leadN (s : Str) : Nat := (s.takeWhile bl).length
theorem leadN_bare {s : Str} (h : bare s = true) : leadN s = s.length := by
 unfold leadN
 rw [tw_all (fun x hx => List.all_eq_true.1 h x hx)]
def leastI (m : Int) (s : Str) : Int := if bare s then m else if m < 0 then (leadN s : Int) else if (leadN s : Int) < m then (leadN s : Int) else m
def indent (l : List Str) : Int := (l.drop 1).foldl leastI (-1)
theorem leastI_ge (m : Int) (s : Str) (h : -1 ≤ m) : -1 ≤ leastI m s := by unfold leastI; split <;> (try split) <;> (try split) <;> omega
theorem least_ge : ∀ (l : List Str) (m : Int), -1 ≤ m → -1 ≤ l.foldl leastI m
 | [], m, h => h
 | s :: l, m, h => least_ge l _ (leastI_ge m s h)
theorem indent_ge (l : List Str) : -1 ≤ indent l := least_ge _ _ (by omega)
def shiftL (n : Nat) : List Str → List Str
 | [] => []
 | x :: r => x :: r.map (·.drop n)
theorem shift_len (n : Nat) (l : List Str) : (shiftL n l).length = l.length := by cases l <;> simp [shiftL]
theorem wt_drop (n : Nat) : ∀ (l : List Str), wt (l.map (·.drop n)) ≤ wt l
 | [] => Nat.le_refl _
 | x :: l => by have := wt_drop n l; rw [List.map_cons, wt_cons, wt_cons, List.length_drop]; omega
theorem wt_shift (n : Nat) (l : List Str) : wt (shiftL n l) ≤ wt l := by
 cases l with
 | nil => exact Nat.le_refl _
 | cons x r => have := wt_drop n r; rw [shiftL, wt_cons, wt_cons]; omega
def trimF (l : List Str) : List Str := l.dropWhile bare
def trimB (l : List Str) : List Str := (l.reverse.dropWhile bare).reverse
theorem trimB_snoc (l : List Str) (x : Str) : trimB (l ++ [x]) = if bare x then trimB l else l ++ [x] := by
 unfold trimB
 rw [List.reverse_append, List.reverse_singleton, List.singleton_append, List.dropWhile_cons]
 split
 ·rfl
 ·rw [List.reverse_cons, List.reverse_reverse]
theorem trimB_pre : ∀ (n : Nat) (l : List Str), l.length ≤ n → ∃ r, l = trimB l ++ r := by
 intro n
 induction n with
 | zero => intro l h; have : l = [] := List.length_eq_zero_iff.1 (by omega); subst this; exact ⟨[], rfl⟩
 | succ n ih =>
  intro l h
  rcases List.eq_nil_or_concat l with rfl | ⟨m, x, rfl⟩
  ·exact ⟨[], rfl⟩
  ·rw [List.concat_eq_append] at h ⊢
   rw [trimB_snoc]
   split
   ·obtain ⟨r, hr⟩ := ih m (by simp at h; omega)
    exact ⟨r ++ [x], by rw [← List.append_assoc, ← hr]⟩
   ·exact ⟨[], by simp⟩
def says (l : List Str) : List Str := trimB (trimF (shiftL (indent l).toNat l))
def value (raw : Str) : Str := joinS (says (lns raw)) [10]
theorem joinS_nil (sep : Str) : joinS [] sep = [] := by simp [joinS, List.intercalate]
theorem joinS_one (x sep : Str) : joinS [x] sep = x := by simp [joinS, List.intercalate]
theorem joinS_cons2 (x y : Str) (l : List Str) (sep : Str) : joinS (x :: y :: l) sep = x ++ (sep ++ joinS (y :: l) sep) := by
 simp [joinS, List.intercalate, List.intersperse]
theorem joinS_len : ∀ (l : List Str), (joinS l [10]).length + 1 ≤ wt l + 1
 | [] => by rw [joinS_nil]; simp
 | [x] => by rw [joinS_one, wt_cons]; omega
 | x :: y :: l => by
  have := joinS_len (y :: l)
  rw [joinS_cons2, wt_cons]
  simp only [List.length_append, List.length_singleton]; omega
theorem wt_trimF : ∀ (l : List Str), wt (trimF l) ≤ wt l
 | [] => Nat.le_refl _
 | x :: l => by
  have h := wt_trimF l
  unfold trimF at h ⊢
  rw [List.dropWhile_cons]
  split
  ·rw [wt_cons]; omega
  ·exact Nat.le_refl _
theorem wt_trimB (l : List Str) : wt (trimB l) ≤ wt l := by
 obtain ⟨r, hr⟩ := trimB_pre l.length l (Nat.le_refl _)
 conv => rhs; rw [hr, wt_app]
 omega
theorem ltT {i n : Nat} (h : i < n) : decide ((i : Int) < (n : Int)) = true := by simp; omega
theorem ltF {i n : Nat} (h : n ≤ i) : decide ((i : Int) < (n : Int)) = false := by simp; omega
theorem u8eq {c : UInt8} {n : Nat} (hn : n < 256) : ((c.toNat : Int) == (n : Int)) = (c == UInt8.ofNat n) := by
 rw [Bool.eq_iff_iff]
 simp only [beq_iff_eq]
 constructor
 ·intro h
  have : c.toNat = n := by omega
  rw [← this]; simp
 ·rintro rfl
  simp [UInt8.toNat_ofNat, Nat.mod_eq_of_lt hn]
theorem u10 (c : UInt8) : ((c.toNat : Int) == 10) = (c == 10) := u8eq (n := 10) (by decide)
theorem u13 (c : UInt8) : ((c.toNat : Int) == 13) = (c == 13) := u8eq (n := 13) (by decide)
theorem u9 (c : UInt8) : ((c.toNat : Int) == 9) = (c == 9) := u8eq (n := 9) (by decide)
theorem u32 (c : UInt8) : ((c.toNat : Int) == 32) = (c == 32) := u8eq (n := 32) (by decide)
theorem drop_cons {α : Type} {l : List α} {i : Nat} {x : α} (h : l[i]? = some x) : l.drop i = x :: l.drop (i + 1) := by
 obtain ⟨hlt, hx⟩ := List.getElem?_eq_some_iff.1 h
 rw [List.drop_eq_getElem_cons hlt, hx]
def cut {α : Type} (s : List α) (f i : Nat) : List α := (s.take i).drop f
theorem cut_same {α : Type} (s : List α) (i : Nat) : cut s i i = [] := by unfold cut; simp
theorem cut_next {α : Type} {s : List α} {f i : Nat} {c : α} (hf : f ≤ i) (h : s[i]? = some c) : cut s f (i + 1) = cut s f i ++ [c] := by
 obtain ⟨hlt, hx⟩ := List.getElem?_eq_some_iff.1 h
 unfold cut
 rw [List.take_add_one, h, Option.toList_some, List.drop_append_of_le_length (by simp; omega)]
theorem tslc_cut {α : Type} {s : List α} {f i : Nat} (hf : f ≤ i) (hi : i ≤ s.length) : tslc s (f : Int) (i : Int) = some (cut s f i) := by
 rw [tslc_ok (by omega)]; simp [cut]
theorem lines_loop (s : Str) (hs : s.length ≤ 1073741824) : ∀ (n i f : Nat) (l : List Str), s.length - i ≤ n → f ≤ i → i ≤ s.length → l.length ≤ i →
  ∃ l' f' : _, tloop (bo_Lines_l1T s) ((i : Int), l, (f : Int)) = some (l', ((f' : Nat) : Int)) ∧ f' ≤ s.length ∧ l' ++ [s.drop f'] = l ++ lnsA (cut s f i) (s.drop i) ∧ l'.length ≤ s.length := by
 intro n
 induction n with
 | zero =>
  intro i f l h1 h2 h3 h4
  have : i = s.length := by omega
  subst this
  refine ⟨l, f, tloop_exit (by simp only [bo_Lines_l1T, end_lt, cnd_f]), h2, ?_, h4⟩
  rw [List.drop_length, lnsA_nil]; simp [cut]
 | succ n ih =>
  intro i f l h1 h2 h3 h4
  by_cases hi : i = s.length
  ·subst hi
   refine ⟨l, f, tloop_exit (by simp only [bo_Lines_l1T, end_lt, cnd_f]), h2, ?_, h4⟩
   rw [List.drop_length, lnsA_nil]; simp [cut]
  have hlt : i < s.length := by omega
  obtain ⟨c, hc⟩ : ∃ c, s[i]? = some c := ⟨_, List.getElem?_eq_getElem hlt⟩
  have e1 : nthI s (i : Int) = some c := by rw [nthI_nat]; exact hc
  have hd := drop_cons hc
  have e2 : IntKind.wrap .i64 ((i : Int) + 1) = ((i + 1 : Nat) : Int) := wadd (by omega)
  have ta : tapp l [cut s f i] = some (l ++ [cut s f i]) := tapp_ok (by rw [lim_val]; simp; omega)
  have tc := tslc_cut (s := s) h2 h3
  by_cases h10 : c = 10
  ·subst h10
   have st : bo_Lines_l1T s ((i : Int), l, (f : Int)) = some (.inl (((i + 1 : Nat) : Int), l ++ [cut s f i], ((i + 1 : Nat) : Int))) := by
    simp only [bo_Lines_l1T, ltT hlt, cnd_t, e1, bnd_s, bne, u10, u13, tc, ta, e2]
    rfl
   obtain ⟨l', f', k1, k2, k3, k4⟩ := ih (i + 1) (i + 1) (l ++ [cut s f i]) (by omega) (by omega) (by omega) (by simp; omega)
   refine ⟨l', f', by rw [tloop_next st]; exact k1, k2, ?_, k4⟩
   rw [k3, hd, lnsA_10, cut_same]; simp
  by_cases h13 : c = 13
  ·subst h13
   by_cases hh : (s.drop (i + 1)).head? = some 10
   ·-- two bytes
    have hc1 : s[i + 1]? = some 10 := by rw [List.head?_drop] at hh; exact hh
    have hlt1 : i + 1 < s.length := (List.getElem?_eq_some_iff.1 hc1).1
    have e3 : nthI s ((i + 1 : Nat) : Int) = some 10 := by rw [nthI_nat]; exact hc1
    have e4 : IntKind.wrap .i64 (((i + 1 : Nat) : Int) + 1) = ((i + 2 : Nat) : Int) := wadd (by omega)
    have st : bo_Lines_l1T s ((i : Int), l, (f : Int)) = some (.inl (((i + 2 : Nat) : Int), l ++ [cut s f i], ((i + 2 : Nat) : Int))) := by
     simp only [bo_Lines_l1T, ltT hlt, cnd_t, e1, bnd_s, bne, u10, u13, tc, ta, e2, ltT hlt1, e3, e4]
     rfl
    obtain ⟨l', f', k1, k2, k3, k4⟩ := ih (i + 2) (i + 2) (l ++ [cut s f i]) (by omega) (by omega) (by omega) (by simp; omega)
    refine ⟨l', f', by rw [tloop_next st]; exact k1, k2, ?_, k4⟩
    rw [k3, hd, drop_cons hc1, lnsA_crlf, cut_same]; simp
   ·have st : bo_Lines_l1T s ((i : Int), l, (f : Int)) = some (.inl (((i + 1 : Nat) : Int), l ++ [cut s f i], ((i + 1 : Nat) : Int))) := by
     simp only [bo_Lines_l1T, ltT hlt, cnd_t, e1, bnd_s, bne, u10, u13, tc, ta, e2]
     by_cases hl1 : i + 1 < s.length
     ·obtain ⟨d, hd1⟩ : ∃ d, s[i + 1]? = some d := ⟨_, List.getElem?_eq_getElem hl1⟩
      have e3 : nthI s ((i + 1 : Nat) : Int) = some d := by rw [nthI_nat]; exact hd1
      have hne : (d == 10) = false := by
       have : d ≠ 10 := by rintro rfl; exact hh (by rw [List.head?_drop]; exact hd1)
       simpa using this
      simp only [ltT hl1, e3, bnd_s, hne]; rfl
     ·simp only [ltF (show s.length ≤ i + 1 by omega)]; rfl
    obtain ⟨l', f', k1, k2, k3, k4⟩ := ih (i + 1) (i + 1) (l ++ [cut s f i]) (by omega) (by omega) (by omega) (by simp; omega)
    refine ⟨l', f', by rw [tloop_next st]; exact k1, k2, ?_, k4⟩
    rw [k3, hd, lnsA_cr _ _ hh, cut_same]; simp
  ·have b10 : (c == 10) = false := by simpa using h10
   have b13 : (c == 13) = false := by simpa using h13
   have st : bo_Lines_l1T s ((i : Int), l, (f : Int)) = some (.inl (((i + 1 : Nat) : Int), l, (f : Int))) := by
    simp only [bo_Lines_l1T, ltT hlt, cnd_t, e1, bnd_s, bne, u10, u13, b10, b13, e2]
    rfl
   obtain ⟨l', f', k1, k2, k3, k4⟩ := ih (i + 1) f l (by omega) (by omega) (by omega) (by omega)
   refine ⟨l', f', by rw [tloop_next st]; exact k1, k2, ?_, k4⟩
   rw [k3, hd, lnsA_other _ _ h10 h13, cut_next h2 hc]
theorem Lines_ok (s : Str) (hs : s.length ≤ 1073741824) : bo_Lines s = some (lns s) := by
 apply bo_Lines_run
 obtain ⟨l', f', k1, k2, k3, k4⟩ := lines_loop s hs s.length 0 0 [] (by omega) (by omega) (by omega) (by simp)
 simp only [bo_Lines_B]
 rw [show tloop (bo_Lines_l1T s) (0, [], 0) = _ from k1, bnd_s]
 simp only
 rw [tslc_cut k2 (Nat.le_refl _), bnd_s, tapp_ok (by rw [lim_val]; simp; omega), bnd_s]
 have : cut s f' s.length = s.drop f' := by unfold cut; rw [List.take_length]
 rw [this, k3, cut_same, List.nil_append, List.drop_zero]; rfl
def blanksR (s : Str) (n : Nat) : Str → Unit ⊕ Int := fun r => if bare r then .inl () else .inr (((n - r.length + leadN r : Nat)) : Int)
theorem blanks_loop (s : Str) (hs : s.length ≤ 1073741824) : tloop (bo_blanks_l1T s) 0 = some (blanksR s s.length s) := by
 refine loop_list (b := bo_blanks_l1T s) s (fun k (_ : Unit) => (k : Int)) (fun r _ => blanksR s s.length r) (fun _ _ => True) (by unfold Sm; omega) ?_ ?_ (s := 0) (a := ()) rfl trivial
 ·intro _ _
  simp only [bo_blanks_l1T, end_lt, cnd_f]; rfl
 ·intro k c r _ hm hk hd h1 h2 h3 _
  have h5 : s.length - k = r.length + 1 := by
   have := congrArg List.length hd
   simpa only [List.length_drop, List.length_cons] using this
  have hlen : s.length - (c :: r).length = k := by simp only [List.length_cons]; omega
  have hlen2 : s.length - r.length = k + 1 := by omega
  simp only [bo_blanks_l1T, h1, cnd_t, h2, bnd_s, bne, u9, u32, h3]
  by_cases hb : bl c = true
  ·right
   refine ⟨(), ?_, trivial, ?_⟩
   ·unfold bl at hb
    cases h9 : (c == 9) with
    | true => rfl
    | false =>
     rw [h9, Bool.false_or] at hb
     rw [hb]; rfl
   ·unfold blanksR
    have e1 : bare (c :: r) = bare r := by simp [bare, hb]
    have e2 : leadN (c :: r) = leadN r + 1 := by simp [leadN, hb]
    rw [e1, e2, hlen, hlen2]
    split
    ·rfl
    ·congr 2; omega
  ·left
   have hb' : bl c = false := by simpa using hb
   have h9 : (c == 9) = false := by unfold bl at hb'; simp at hb' ⊢; exact hb'.1
   have h32 : (c == 32) = false := by unfold bl at hb'; simp at hb' ⊢; exact hb'.2
   rw [h9, h32]
   unfold blanksR
   have e1 : bare (c :: r) = false := by simp [bare, hb']
   have e2 : leadN (c :: r) = 0 := by simp [leadN, hb']
   rw [e1, e2, hlen]
   rfl
theorem blanks_ok (s : Str) (hs : s.length ≤ 1073741824) : bo_blanks s = some ((leadN s : Int), !bare s) := by
 apply bo_blanks_run
 simp only [bo_blanks_B, blanks_loop s hs, bnd_s, blanksR]
 by_cases h : bare s = true
 ·simp only [h, if_true, elim_inl, leadN_bare h, Bool.not_true]
 ·have h' : bare s = false := by simpa using h
  simp only [h', if_false, Bool.false_eq_true, elim_inr, Bool.not_false, Nat.sub_self, Nat.zero_add]
theorem bare_ok (s : Str) (hs : s.length ≤ 1073741824) : bo_bare s = some (bare s) := by
 apply bo_bare_run
 simp only [bo_bare_B, blanks_ok s hs, bnd_s, Bool.not_not]
theorem Indent_ok (l : List Str) (hl : l.length ≤ 1073741824) (hx : ∀ x ∈ l, x.length ≤ 1073741824) : bo_Indent l = some (indent l) := by
 apply bo_Indent_run
 have h : tloop (bo_Indent_l1T l) (0, (-1)) = some (indent l) := by
  have := loop_list (b := bo_Indent_l1T l) l (fun k (m : Int) => ((k : Int), m)) (fun r m => if r.length = l.length then (r.drop 1).foldl leastI m else r.foldl leastI m) (fun _ _ => True) (by unfold Sm; omega)
   (fun m _ => by
    simp only [bo_Indent_l1T, end_lt, cnd_f]
    by_cases e : ([] : List Str).length = l.length
    ·rw [if_pos e]; rfl
    ·rw [if_neg e]; rfl)
   (fun k x r m hm hk hd h1 h2 h3 _ => by
    right
    have hlen : (x :: r).length = l.length - k := by rw [← hd, List.length_drop]
    have hr : ¬ r.length = l.length := by simp only [List.length_cons] at hlen; omega
    by_cases k0 : k = 0
    ·subst k0
     refine ⟨m, ?_, trivial, ?_⟩
     ·simp only [bo_Indent_l1T, h1, cnd_t, h2, bnd_s, blanks_ok x (hx x hm), h3]; rfl
     ·rw [if_pos (by simpa using hlen), if_neg hr]; rfl
    ·refine ⟨leastI m x, ?_, trivial, ?_⟩
     ·have kb : ((k : Int) == 0) = false := by simp; omega
      simp only [bo_Indent_l1T, h1, cnd_t, h2, bnd_s, blanks_ok x (hx x hm), h3, kb, cnd_f, Bool.not_not]
      unfold leastI
      by_cases hb : bare x = true
      ·simp only [hb, cnd_t, if_true]
      ·have hb' : bare x = false := by simpa using hb
       simp only [hb', cnd_f, if_false, Bool.false_eq_true]
       by_cases hm0 : m < 0
       ·simp only [hm0, decide_true, cnd_t, if_true]
       ·simp only [hm0, decide_false, cnd_f, if_false]
        by_cases hm1 : (leadN x : Int) < m
        ·simp only [hm1, decide_true, cnd_t, if_true]
        ·simp only [hm1, decide_false, cnd_f, if_false]
     ·rw [if_neg (by rw [hlen]; omega), if_neg hr]; rfl) (s := (0, -1)) (a := -1) rfl trivial
  rw [this, if_pos rfl]; rfl
 simp only [bo_Indent_B, h, bnd_s]
theorem shift_get {n i : Nat} {l : List Str} {x : Str} (hi : 1 ≤ i) (h : l[i]? = some x) : (shiftL n l)[i]? = some (x.drop n) := by
 cases l with
 | nil => simp at h
 | cons y r =>
  obtain ⟨j, rfl⟩ : ∃ j, i = j + 1 := ⟨i - 1, by omega⟩
  simp only [List.getElem?_cons_succ] at h
  simp only [shiftL, List.getElem?_cons_succ, List.getElem?_map, h, Option.map_some]
def mid (n i : Nat) (l : List Str) : List Str := (shiftL n l).take i ++ l.drop i
theorem mid_len (n i : Nat) (l : List Str) (h : i ≤ l.length) : (mid n i l).length = l.length := by
 unfold mid; rw [List.length_append, List.length_take, List.length_drop, shift_len]; omega
theorem mid_get {n i : Nat} {l : List Str} (h : i < l.length) : (mid n i l)[i]? = l[i]? := by
 unfold mid
 rw [List.getElem?_append_right (by rw [List.length_take, shift_len]; omega), List.length_take, shift_len, List.getElem?_drop]
 congr 1; omega
theorem mid_put {n i : Nat} {l : List Str} {x : Str} (hi : 1 ≤ i) (h : l[i]? = some x) : (mid n i l).modify i (fun _ => x.drop n) = mid n (i + 1) l := by
 have hlt := (List.getElem?_eq_some_iff.1 h).1
 apply List.ext_getElem?
 intro j
 rw [List.getElem?_modify]
 have hsl : (shiftL n l).length = l.length := shift_len n l
 unfold mid
 by_cases e : i = j
 ·subst e
  simp only [↓reduceIte, Option.map_eq_map]
  rw [List.getElem?_append_right (by rw [List.length_take, hsl]; omega), List.getElem?_append_left (by rw [List.length_take, hsl]; omega),
   List.length_take, hsl, List.getElem?_drop, List.getElem?_take, if_pos (by omega), shift_get hi h]
  rw [show i + (i - min i l.length) = i by omega, h]; rfl
 ·simp only [e, ↓reduceIte, Option.map_eq_map, Option.map_id']
  by_cases hj : j < i
  ·rw [List.getElem?_append_left (by rw [List.length_take, hsl]; omega), List.getElem?_append_left (by rw [List.length_take, hsl]; omega), List.getElem?_take, if_pos hj, List.getElem?_take, if_pos (by omega)]
  ·rw [List.getElem?_append_right (by rw [List.length_take, hsl]; omega), List.getElem?_append_right (by rw [List.length_take, hsl]; omega), List.length_take, List.length_take, hsl, List.getElem?_drop, List.getElem?_drop]
   congr 1; omega
theorem tslc_min (x : Str) (n : Nat) : tslc x (if (List.length x : Int) < (n : Int) then (List.length x : Int) else (n : Int)) (List.length x) = some (x.drop n) := by
 by_cases h : (x.length : Int) < (n : Int)
 ·rw [if_pos h, tslc_ok (by omega)]
  rw [List.drop_of_length_le (show x.length ≤ n by omega)]; simp
 ·rw [if_neg h, tslc_ok (by omega)]
  simp
theorem move_loop (l : List Str) (n : Nat) (hl : l.length ≤ 1073741824) : ∀ (k i : Nat), l.length - i ≤ k → 1 ≤ i → i ≤ l.length → tloop (bo_Value_l1T l (n : Int)) ((i : Int), mid n i l) = some (shiftL n l) := by
 have hend : ∀ i, i = l.length → tloop (bo_Value_l1T l (n : Int)) ((i : Int), mid n i l) = some (shiftL n l) := by
  rintro i rfl
  refine tloop_exit ?_
  simp only [bo_Value_l1T, end_lt, cnd_f, mid, List.drop_length, List.append_nil]
  rw [List.take_of_length_le (by rw [shift_len]; exact Nat.le_refl _)]
 intro k
 induction k with
 | zero => intro i h1 h2 h3; exact hend i (by omega)
 | succ k ih =>
  intro i h1 h2 h3
  by_cases hi : i = l.length
  ·exact hend i hi
  have hlt : i < l.length := by omega
  obtain ⟨x, hx⟩ : ∃ x, l[i]? = some x := ⟨_, List.getElem?_eq_getElem hlt⟩
  have e1 : tixR (List.length l) (i : Int) = some i := by rw [tixR_ok (by omega)]; simp
  have e2 : tget (mid n i l) i (fun z : Str => z) = some x := by unfold tget; rw [mid_get hlt, hx]; rfl
  have e3 : IntKind.wrap .i64 ((i : Int) + 1) = ((i + 1 : Nat) : Int) := wadd (by omega)
  have st : bo_Value_l1T l (n : Int) ((i : Int), mid n i l) = some (.inl (((i + 1 : Nat) : Int), mid n (i + 1) l)) := by
   simp only [bo_Value_l1T, ltT hlt, cnd_t, e1, bnd_s, e2, tslc_min, e3]
   rw [tput_ok (by rw [mid_len n i l h3]; exact hlt), bnd_s, mid_put h2 hx]
  rw [tloop_next st]
  exact ih (i + 1) (by omega) (by omega) (by omega)
theorem move_all (l : List Str) (n : Nat) (hl : l.length ≤ 1073741824) (hne : l ≠ []) : tloop (bo_Value_l1T l (n : Int)) (1, l) = some (shiftL n l) := by
 have h1 : 1 ≤ l.length := by cases l with
  | nil => exact absurd rfl hne
  | cons x r => simp
 have := move_loop l n hl l.length 1 (by omega) (by omega) h1
 have e : mid n 1 l = l := by
  cases l with
  | nil => rfl
  | cons x r => simp [mid, shiftL]
 rw [e] at this
 exact this
def Ok (l : List Str) : Prop := l.length ≤ 1073741824 ∧ ∀ x ∈ l, x.length ≤ 1073741824
theorem Ok.of_wt {l : List Str} (h : wt l ≤ 1073741824) : Ok l := ⟨Nat.le_trans (wt_len l) h, fun x hx => by have := wt_mem hx; omega⟩
theorem front_loop {b : List Str → Option (List Str ⊕ List Str)} (hb : ∀ l, Ok l → b l = cnd (decide ((List.length l : Int) > 0)) (bnd (nthI l 0) fun x => bnd (bo_bare x) fun y => cnd y (bnd (tslc l 1 (List.length l)) fun z => some (.inl z)) (some (.inr l))) (some (.inr l))) :
  ∀ l, Ok l → tloop b l = some (trimF l) := by
 refine tloop_eq Ok List.length trimF ?_
 intro l hl
 rw [hb l hl]
 cases l with
 | nil => left; rfl
 | cons x r =>
  have d : decide ((List.length (x :: r) : Int) > 0) = true := decide_eq_true (by rw [List.length_cons]; omega)
  have e1 : nthI (x :: r) 0 = some x := rfl
  rw [d, cnd_t, e1, bnd_s, bare_ok x (hl.2 x (by simp)), bnd_s]
  have e2 : tslc (x :: r) 1 (List.length (x :: r)) = some r := by
   rw [tslc_ok (by simp only [List.length_cons]; omega)]; simp
  rw [e2, bnd_s]
  by_cases h : bare x = true
  ·right
   refine ⟨r, by rw [h]; rfl, ⟨?_, fun y hy => hl.2 y (by simp [hy])⟩, by simp, by simp [trimF, h]⟩
   have := hl.1; simp at this; omega
  ·left
   have h' : bare x = false := by simpa using h
   rw [h', cnd_f]; try simp [trimF, h']
theorem back_loop {b : List Str → Option (List Str ⊕ List Str)} (hb : ∀ l, Ok l → b l = cnd (decide ((List.length l : Int) > 0)) (bnd (nthI l (IntKind.wrap .i64 ((List.length l : Int) - 1))) fun x => bnd (bo_bare x) fun y => cnd y (bnd (tslc l 0 (IntKind.wrap .i64 ((List.length l : Int) - 1))) fun z => some (.inl z)) (some (.inr l))) (some (.inr l))) :
  ∀ l, Ok l → tloop b l = some (trimB l) := by
 refine tloop_eq Ok List.length trimB ?_
 intro l hl
 rw [hb l hl]
 rcases List.eq_nil_or_concat l with rfl | ⟨m, x, rfl⟩
 ·left; rfl
 ·rw [List.concat_eq_append] at hl ⊢
  have hlen : (m ++ [x]).length = m.length + 1 := by simp
  have hm := hl.1
  rw [hlen] at hm
  have d : decide ((List.length (m ++ [x]) : Int) > 0) = true := decide_eq_true (by rw [hlen]; omega)
  have w : IntKind.wrap .i64 ((List.length (m ++ [x]) : Int) - 1) = (m.length : Int) := by rw [hlen, wi (by omega)]; omega
  have e1 : nthI (m ++ [x]) (m.length : Int) = some x := by rw [nthI_nat]; simp
  rw [d, cnd_t, w, e1, bnd_s, bare_ok x (hl.2 x (by simp)), bnd_s]
  have e2 : tslc (m ++ [x]) 0 (m.length : Int) = some m := by
   rw [tslc_ok (by rw [hlen]; omega)]; simp
  rw [e2, bnd_s, trimB_snoc]
  by_cases h : bare x = true
  ·right
   refine ⟨m, by rw [h]; rfl, ⟨by omega, fun y hy => hl.2 y (by simp [hy])⟩, by simp, by rw [if_pos h]⟩
  ·left
   have h' : bare x = false := by simpa using h
   rw [h', cnd_f]; try rw [if_neg (by simp)]
theorem Value_ok (raw : Str) (hr : raw.length ≤ 1073741000) : bo_Value raw = some (value raw) := by
 apply bo_Value_run
 have hw := wt_lns raw
 have hwl : wt (lns raw) ≤ 1073741824 := by omega
 have ok := Ok.of_wt hwl
 have hne := lns_ne raw
 simp only [bo_Value_B, Lines_ok raw (by omega), bnd_s, ble_self, Bool.and_true, cnd_t, List.take_length, Indent_ok _ ok.1 ok.2]
 have okS : ∀ n, Ok (shiftL n (lns raw)) := fun n => Ok.of_wt (Nat.le_trans (wt_shift n _) hwl)
 have okF : ∀ n, Ok (trimF (shiftL n (lns raw))) := fun n => Ok.of_wt (Nat.le_trans (wt_trimF _) (Nat.le_trans (wt_shift n _) hwl))
 have fin : ∀ n, wt (trimB (trimF (shiftL n (lns raw)))) ≤ 1073741824 := fun n => Nat.le_trans (wt_trimB _) (Nat.le_trans (wt_trimF _) (Nat.le_trans (wt_shift n _) hwl))
 have join : ∀ n, st_Join (trimB (trimF (shiftL n (lns raw)))) [10] = some (joinS (trimB (trimF (shiftL n (lns raw)))) [10]) := by
  intro n
  apply st_Join_run
  have h1 := fin n
  have h2 := wt_len (trimB (trimF (shiftL n (lns raw))))
  have h3 := joinS_len (trimB (trimF (shiftL n (lns raw))))
  unfold tJoin
  rw [if_pos (by constructor <;> omega)]
 have hge := indent_ge (lns raw)
 by_cases hp : indent (lns raw) > 0
 ·obtain ⟨n, hn⟩ := Int.eq_ofNat_of_zero_le (Int.le_of_lt hp)
  have e1 : (indent (lns raw)).toNat = n := by omega
  simp only [hp, decide_true, cnd_t]
  have hmv := move_all (lns raw) n ok.1 hne
  rw [hn, hmv, bnd_s, shift_len, ble_self, cnd_t]
  rw [List.take_of_length_le (by rw [shift_len]; exact Nat.le_refl _)]
  rw [front_loop (b := bo_Value_l2T) (fun l _ => rfl) _ (okS n), bnd_s, back_loop (b := bo_Value_l3T) (fun l _ => rfl) _ (okF n), bnd_s, join n, bnd_s]
  unfold value says; rw [e1]
 ·have e1 : (indent (lns raw)).toNat = 0 := by omega
  have es : shiftL 0 (lns raw) = lns raw := by cases lns raw <;> simp [shiftL]
  have := join 0
  rw [es] at this
  have o2 := okF 0
  rw [es] at o2
  simp only [hp, decide_false, cnd_f]
  rw [front_loop (b := bo_Value_l2T) (fun l _ => rfl) _ ok, bnd_s, back_loop (b := bo_Value_l3T) (fun l _ => rfl) _ o2, bnd_s, this, bnd_s]
  unfold value says; rw [e1, es]
theorem u8all {P : UInt8 → Prop} (h : ∀ x : Fin 256, P (UInt8.ofNat x.val)) : ∀ c, P c := by
 intro c
 have := h ⟨c.toNat, c.toNat_lt⟩
 simpa using this
def isD (c : UInt8) : Bool := digit c.toNat
def isL (c : UInt8) : Bool := letter c.toNat
def digs (s : Str) : Nat := (s.takeWhile isD).length
def sgn (s : Str) : Nat := if s.head? = some 45 then 1 else 0
def wholeN (s : Str) : Nat :=
 if digs (s.drop (sgn s)) = 0 then 0 else if s[sgn s]? = some 48 then sgn s + 1 else sgn s + digs (s.drop (sgn s))
def expS (s : Str) : Nat := if s[1]? = some 43 ∨ s[1]? = some 45 then 2 else 1
def powN (s : Str) : Nat :=
 if s[0]? = some 101 ∨ s[0]? = some 69 then (if digs (s.drop (expS s)) = 0 then 0 else expS s + digs (s.drop (expS s))) else 0
def pointN (s : Str) (n : Nat) : Nat × Int :=
 if s[n]? = some 46 ∧ 0 < digs (s.drop (n + 1)) then (n + 1 + digs (s.drop (n + 1)), 4) else (n, 3)
def expN (s : Str) (p : Nat × Int) : Nat × Int := if 0 < powN (s.drop p.1) then (p.1 + powN (s.drop p.1), 4) else p
def numN (s : Str) : Nat × Int := if wholeN s = 0 then (0, 0) else expN s (pointN s (wholeN s))
def numI (s : Str) : Int := if (numN s).1 = s.length then (numN s).2 else 0
def wordN (s : Str) : Nat := (s.takeWhile inName).length
def hexV (c : UInt8) : Option Nat :=
 if 48 ≤ c.toNat ∧ c.toNat ≤ 57 then some (c.toNat - 48) else if 97 ≤ c.toNat ∧ c.toNat ≤ 102 then some (c.toNat - 87) else if 65 ≤ c.toNat ∧ c.toNat ≤ 70 then some (c.toNat - 55) else none
def hexF : Nat → Str → Nat → Option Nat
 | 0, _, v => some v
 | _ + 1, [], _ => none
 | n + 1, c :: r, v => match hexV c with
  | none => none
  | some d => hexF n r (16 * v + d)
def unit4 (s : Str) : Option Nat := hexF 4 s 0
def escL : Str := [34, 92, 47, 98, 102, 110, 114, 116]
def escR : Str := [34, 92, 47, 8, 12, 10, 13, 9]
def escV (c : UInt8) : Option UInt8 := if idxB escL c < 0 then none else escR[(idxB escL c).toNat]?
def quo (s : Str) (out : Str) (us : List Int) : Option (Str × Str) :=
 match s with
 | [] => none
 | c :: r =>
  if c = 92 ∧ r.head? = some 117 then
   match unit4 (r.drop 1) with
   | none => none
   | some v => quo (r.drop 5) out (us ++ [(v : Int)])
  else match joinU us with
   | none => none
   | some l =>
    if c = 34 then some (out ++ encL8 l, r)
    else if c = 10 ∨ c = 13 then none
    else if c = 92 then
     match r with
     | [] => none
     | d :: r' => match escV d with
      | none => none
      | some e => quo r' (out ++ encL8 l ++ [e]) []
    else quo r (out ++ encL8 l ++ [c]) []
termination_by s.length
decreasing_by all_goals (simp only [List.length_cons, List.length_drop]; omega)
def blk (s : Str) (raw : Str) : Option (Str × Str) :=
 match s with
 | [] => none
 | c :: r =>
  if [34, 34, 34].isPrefixOf (c :: r) then some (raw, r.drop 2)
  else if [92, 34, 34, 34].isPrefixOf (c :: r) then blk (r.drop 3) (raw ++ [34, 34, 34])
  else blk r (raw ++ [c])
termination_by s.length
decreasing_by all_goals (simp only [List.length_cons, List.length_drop]; omega)
def notEol (c : UInt8) : Bool := c != 10 && c != 13
def isGap (c : UInt8) : Bool := c == 9 || c == 10 || c == 13 || c == 32 || c == 44
def bom : Str := [239, 187, 191]
def gapN (s : Str) : Nat :=
 match s with
 | [] => 0
 | c :: r => if isGap c then 1 else if bom.isPrefixOf (c :: r) then 3 else if c = 35 then ((c :: r).takeWhile notEol).length else 0
def marks : Str := [33, 36, 38, 40, 41, 58, 61, 64, 91, 93, 123, 124, 125]
def isMark (c : UInt8) : Bool := decide (0 ≤ idxB marks c)
def ends (s : Str) (n : Nat) : Bool := match s[n]? with
 | none => true
 | some c => !(isL c || isD c || c == 46)
def oneT (s : Str) : Option (GToken × Nat) :=
 match s with
 | [] => none
 | c :: r =>
  if [34, 34, 34].isPrefixOf (c :: r) then (blk (r.drop 2) []).map fun p => (GToken.mk 5 (value p.1), (c :: r).length - p.2.length)
  else if c = 34 then (quo r [] []).map fun p => (GToken.mk 5 p.1, (c :: r).length - p.2.length)
  else if [46, 46, 46].isPrefixOf (c :: r) then some (GToken.mk 1 [46, 46, 46], 3)
  else if isMark c then some (GToken.mk 1 [c], 1)
  else if isL c then some (GToken.mk 2 ((c :: r).take (wordN (c :: r))), wordN (c :: r))
  else if (numN (c :: r)).1 = 0 then none
  else if ends (c :: r) (numN (c :: r)).1 then some (GToken.mk (numN (c :: r)).2 ((c :: r).take (numN (c :: r)).1), (numN (c :: r)).1)
  else none
def lexF : Nat → Str → Option (List GToken)
 | 0, _ => none
 | n + 1, s =>
  if s = [] then some []
  else if 0 < gapN s then lexF n (s.drop (gapN s))
  else match oneT s with
   | none => none
   | some (t, k) => (lexF n (s.drop k)).map (t :: ·)
def lex (s : Str) : Option (List GToken) := lexF (s.length + 1) s
theorem tw_le {α : Type} (p : α → Bool) (s : List α) : (s.takeWhile p).length ≤ s.length := (List.takeWhile_sublist p).length_le
theorem digs_le (s : Str) : digs s ≤ s.length := tw_le _ _
theorem sgn_le (s : Str) : sgn s ≤ s.length := by
 unfold sgn; split
 ·rename_i h; cases s with
  | nil => simp at h
  | cons _ _ => simp
 ·omega
theorem wholeN_le (s : Str) : wholeN s ≤ s.length := by
 have h1 := digs_le (s.drop (sgn s))
 rw [List.length_drop] at h1
 unfold wholeN
 repeat' split
 all_goals omega
theorem getElem?_lt {α : Type} {l : List α} {i : Nat} {x : α} (h : l[i]? = some x) : i < l.length := (List.getElem?_eq_some_iff.1 h).1
theorem expS_le {s : Str} (h : s[0]? = some 101 ∨ s[0]? = some 69) : expS s ≤ s.length := by
 unfold expS
 split
 ·rename_i h2
  rcases h2 with h2 | h2 <;> (have := getElem?_lt h2; omega)
 ·rcases h with h | h <;> (have := getElem?_lt h; omega)
theorem powN_le (s : Str) : powN s ≤ s.length := by
 unfold powN
 split
 ·rename_i h
  have h1 := digs_le (s.drop (expS s))
  rw [List.length_drop] at h1
  have := expS_le h
  split <;> omega
 ·omega
theorem pointN_le (s : Str) (n : Nat) (h : n ≤ s.length) : (pointN s n).1 ≤ s.length ∧ n ≤ (pointN s n).1 := by
 unfold pointN
 split
 ·rename_i h2
  have h1 := digs_le (s.drop (n + 1))
  rw [List.length_drop] at h1
  have := getElem?_lt h2.1
  exact ⟨by omega, by omega⟩
 ·exact ⟨h, Nat.le_refl _⟩
theorem expN_le (s : Str) (p : Nat × Int) (h : p.1 ≤ s.length) : (expN s p).1 ≤ s.length ∧ p.1 ≤ (expN s p).1 := by
 unfold expN
 split
 ·have := powN_le (s.drop p.1)
  rw [List.length_drop] at this
  exact ⟨by omega, by omega⟩
 ·exact ⟨h, Nat.le_refl _⟩
theorem numN_le (s : Str) : (numN s).1 ≤ s.length := by
 unfold numN
 split
 ·exact Nat.zero_le _
 ·exact (expN_le s _ (pointN_le s _ (wholeN_le s)).1).1
theorem numN_pos {s : Str} (h : wholeN s ≠ 0) : (numN s).1 ≠ 0 := by
 unfold numN
 rw [if_neg h]
 have h1 := (pointN_le s _ (wholeN_le s)).2
 have h2 := (expN_le s _ (pointN_le s _ (wholeN_le s)).1).2
 omega
theorem numN_kind0 (s : Str) : (numN s).2 = 0 ↔ (numN s).1 = 0 := by
 by_cases h : wholeN s = 0
 ·have : numN s = (0, 0) := by unfold numN; rw [if_pos h]
  rw [this]; simp
 ·constructor
  ·intro h0
   exfalso
   revert h0
   unfold numN
   rw [if_neg h]
   unfold expN
   split
   ·simp
   ·unfold pointN
    split <;> simp
  ·intro h0
   exact absurd h0 (numN_pos h)
theorem quo_nil (out : Str) (us : List Int) : quo [] out us = none := by rw [quo.eq_def]
theorem quo_cons (c : UInt8) (r out : Str) (us : List Int) : quo (c :: r) out us =
  if c = 92 ∧ r.head? = some 117 then
   match unit4 (r.drop 1) with
   | none => none
   | some v => quo (r.drop 5) out (us ++ [(v : Int)])
  else match joinU us with
   | none => none
   | some l =>
    if c = 34 then some (out ++ encL8 l, r)
    else if c = 10 ∨ c = 13 then none
    else if c = 92 then
     match r with
     | [] => none
     | d :: r' => match escV d with
      | none => none
      | some e => quo r' (out ++ encL8 l ++ [e]) []
    else quo r (out ++ encL8 l ++ [c]) [] := by rw [quo.eq_def]; rfl
theorem blk_nil (raw : Str) : blk [] raw = none := by rw [blk.eq_def]
theorem blk_cons (c : UInt8) (r raw : Str) : blk (c :: r) raw =
  if [34, 34, 34].isPrefixOf (c :: r) then some (raw, r.drop 2)
  else if [92, 34, 34, 34].isPrefixOf (c :: r) then blk (r.drop 3) (raw ++ [34, 34, 34])
  else blk r (raw ++ [c]) := by rw [blk.eq_def]
theorem quo_len : ∀ (n : Nat) (s out : Str) (us : List Int) (p : Str × Str), s.length ≤ n → quo s out us = some p → p.2.length < s.length ∧ p.2 = s.drop (s.length - p.2.length) := by
 intro n
 induction n with
 | zero =>
  intro s out us p hn h
  have : s = [] := List.length_eq_zero_iff.1 (by omega)
  subst this; rw [quo_nil] at h; cases h
 | succ n ih =>
  intro s out us p hn h
  cases s with
  | nil => rw [quo_nil] at h; cases h
  | cons c r =>
   have use : ∀ (k : Nat) (o : Str) (u : List Int), quo (r.drop k) o u = some p → p.2.length < (c :: r).length ∧ p.2 = (c :: r).drop ((c :: r).length - p.2.length) := by
    intro k o u hq
    simp only [List.length_cons] at hn
    obtain ⟨h1, h2⟩ := ih (r.drop k) o u p (by rw [List.length_drop]; omega) hq
    rw [List.length_drop] at h1 h2
    refine ⟨by simp only [List.length_cons]; omega, ?_⟩
    rw [h2]
    simp only [List.drop_drop, List.length_drop]
    rw [show (c :: r).length - (r.length - (k + (r.length - k - p.2.length))) = (k + (r.length - k - p.2.length)) + 1 by simp only [List.length_cons]; omega, List.drop_succ_cons]
   rw [quo_cons] at h
   split at h
   ·split at h
    ·cases h
    ·exact use 5 _ _ h
   ·split at h
    ·cases h
    ·split at h
     ·cases h
      refine ⟨by simp, ?_⟩
      rw [show (c :: r).length - r.length = 0 + 1 by simp]; rfl
     ·split at h
      ·cases h
      ·split at h
       ·split at h
        ·cases h
        ·split at h
         ·cases h
         ·rename_i d r' _ e _
          exact use 1 _ _ h
       ·exact use 0 _ _ h
theorem blk_len : ∀ (n : Nat) (s raw : Str) (p : Str × Str), s.length ≤ n → blk s raw = some p → p.2.length < s.length ∧ p.2 = s.drop (s.length - p.2.length) ∧ p.1.length ≤ raw.length + s.length := by
 intro n
 induction n with
 | zero =>
  intro s raw p hn h
  have : s = [] := List.length_eq_zero_iff.1 (by omega)
  subst this; rw [blk_nil] at h; cases h
 | succ n ih =>
  intro s raw p hn h
  cases s with
  | nil => rw [blk_nil] at h; cases h
  | cons c r =>
   have use : ∀ (k : Nat) (o : Str), o.length ≤ raw.length + k + 1 → k ≤ r.length → blk (r.drop k) o = some p → p.2.length < (c :: r).length ∧ p.2 = (c :: r).drop ((c :: r).length - p.2.length) ∧ p.1.length ≤ raw.length + (c :: r).length := by
    intro k o ho hk hq
    simp only [List.length_cons] at hn
    obtain ⟨h1, h2, h3⟩ := ih (r.drop k) o p (by rw [List.length_drop]; omega) hq
    rw [List.length_drop] at h1 h2 h3
    refine ⟨by simp only [List.length_cons]; omega, ?_, by simp only [List.length_cons]; omega⟩
    rw [h2]
    simp only [List.drop_drop, List.length_drop]
    rw [show (c :: r).length - (r.length - (k + (r.length - k - p.2.length))) = (k + (r.length - k - p.2.length)) + 1 by simp only [List.length_cons]; omega, List.drop_succ_cons]
   rw [blk_cons] at h
   split at h
   ·rename_i hp
    cases h
    have hl : 3 ≤ (c :: r).length := (List.isPrefixOf_iff_prefix.1 hp).length_le
    simp only [List.length_cons] at hl
    refine ⟨by simp only [List.length_drop, List.length_cons]; omega, ?_, by simp⟩
    simp only [List.length_drop]
    rw [show (c :: r).length - (r.length - 2) = 2 + 1 by simp only [List.length_cons]; omega, List.drop_succ_cons]
   ·split at h
    ·rename_i hp
     have hl : 4 ≤ (c :: r).length := (List.isPrefixOf_iff_prefix.1 hp).length_le
     simp only [List.length_cons] at hl
     exact use 3 _ (by simp) (by omega) h
    ·exact use 0 _ (by simp) (by omega) h
theorem gapN_le (s : Str) : gapN s ≤ s.length := by
 unfold gapN
 split
 ·exact Nat.zero_le _
 ·rename_i c r
  split
  ·simp
  ·split
   ·rename_i hp
    exact (List.isPrefixOf_iff_prefix.1 hp).length_le
   ·split
    ·exact tw_le _ _
    ·omega
theorem oneT_pos {s : Str} {t : GToken} {k : Nat} (h : oneT s = some (t, k)) : 0 < k ∧ k ≤ s.length := by
 cases s with
 | nil => cases h
 | cons c r =>
  simp only [oneT] at h
  split at h
  ·rename_i hp
   have hl : 3 ≤ (c :: r).length := (List.isPrefixOf_iff_prefix.1 hp).length_le
   cases hb : blk (r.drop 2) [] with
   | none => rw [hb] at h; cases h
   | some p =>
    rw [hb] at h; cases h
    have := (blk_len _ _ _ _ (Nat.le_refl _) hb).1
    rw [List.length_drop] at this
    simp only [List.length_cons] at hl ⊢
    omega
  ·split at h
   ·cases hb : quo r [] [] with
    | none => rw [hb] at h; cases h
    | some p =>
     rw [hb] at h; cases h
     have := (quo_len _ _ _ _ _ (Nat.le_refl _) hb).1
     simp only [List.length_cons]
     omega
   ·split at h
    ·rename_i hp
     cases h
     exact ⟨by omega, (List.isPrefixOf_iff_prefix.1 hp).length_le⟩
    ·split at h
     ·cases h; simp
     ·split at h
      ·rename_i hl
       cases h
       refine ⟨?_, tw_le _ _⟩
       unfold wordN
       have : inName c = true := by unfold inName; unfold isL at hl; rw [hl]; rfl
       rw [List.takeWhile_cons, if_pos this]; simp
      ·split at h
       ·cases h
       ·split at h
        ·rename_i h0 _
         cases h
         exact ⟨by omega, numN_le _⟩
        ·cases h
theorem gap_pos {s : Str} (h : 0 < gapN s) : s ≠ [] := by
 rintro rfl; cases h
theorem lexF_eq : ∀ (n m : Nat) (s : Str), s.length < n → s.length < m → lexF n s = lexF m s := by
 intro n
 induction n with
 | zero => intro m s h; omega
 | succ n ih =>
  intro m s h1 h2
  obtain ⟨m, rfl⟩ : ∃ k, m = k + 1 := ⟨m - 1, by omega⟩
  by_cases hs : s = []
  ·simp only [lexF, if_pos hs]
  ·have hl : 0 < s.length := by cases s with
    | nil => exact absurd rfl hs
    | cons _ _ => simp
   simp only [lexF, if_neg hs]
   by_cases hg : 0 < gapN s
   ·rw [if_pos hg, if_pos hg]
    exact ih m _ (by rw [List.length_drop]; omega) (by rw [List.length_drop]; omega)
   ·rw [if_neg hg, if_neg hg]
    cases ho : oneT s with
    | none => rfl
    | some p =>
     obtain ⟨t, k⟩ := p
     have := oneT_pos ho
     simp only []
     rw [ih m (s.drop k) (by rw [List.length_drop]; omega) (by rw [List.length_drop]; omega)]
theorem lex_nil : lex [] = some [] := rfl
theorem lex_gap {s : Str} (h : 0 < gapN s) : lex s = lex (s.drop (gapN s)) := by
 unfold lex
 have hs := gap_pos h
 have hl : 0 < s.length := by cases s with
  | nil => exact absurd rfl hs
  | cons _ _ => simp
 conv => lhs; rw [lexF]
 rw [if_neg hs, if_pos h]
 exact lexF_eq _ _ _ (by rw [List.length_drop]; omega) (by omega)
theorem lex_one {s : Str} (hs : s ≠ []) (h : gapN s = 0) : lex s = match oneT s with
  | none => none
  | some (t, k) => (lex (s.drop k)).map (t :: ·) := by
 unfold lex
 conv => lhs; rw [lexF]
 rw [if_neg hs, if_neg (by omega)]
 cases ho : oneT s with
 | none => rfl
 | some p =>
  obtain ⟨t, k⟩ := p
  have := oneT_pos ho
  simp only []
  rw [lexF_eq s.length ((s.drop k).length + 1) (s.drop k) (by rw [List.length_drop]; omega) (by omega)]
theorem u34 (c : UInt8) : ((c.toNat : Int) == 34) = (c == 34) := u8eq (n := 34) (by decide)
theorem u35 (c : UInt8) : ((c.toNat : Int) == 35) = (c == 35) := u8eq (n := 35) (by decide)
theorem u43 (c : UInt8) : ((c.toNat : Int) == 43) = (c == 43) := u8eq (n := 43) (by decide)
theorem u44 (c : UInt8) : ((c.toNat : Int) == 44) = (c == 44) := u8eq (n := 44) (by decide)
theorem u45 (c : UInt8) : ((c.toNat : Int) == 45) = (c == 45) := u8eq (n := 45) (by decide)
theorem u46 (c : UInt8) : ((c.toNat : Int) == 46) = (c == 46) := u8eq (n := 46) (by decide)
theorem u48 (c : UInt8) : ((c.toNat : Int) == 48) = (c == 48) := u8eq (n := 48) (by decide)
theorem u69 (c : UInt8) : ((c.toNat : Int) == 69) = (c == 69) := u8eq (n := 69) (by decide)
theorem u92 (c : UInt8) : ((c.toNat : Int) == 92) = (c == 92) := u8eq (n := 92) (by decide)
theorem u101 (c : UInt8) : ((c.toNat : Int) == 101) = (c == 101) := u8eq (n := 101) (by decide)
theorem pre_take (p s : Str) (h : p.length ≤ s.length) : p.isPrefixOf s = (s.take p.length == p) := by
 rw [Bool.eq_iff_iff, List.isPrefixOf_iff_prefix, List.prefix_iff_eq_take, beq_iff_eq]
 exact eq_comm
theorem pre_long (p s : Str) (h : s.length < p.length) : p.isPrefixOf s = false := by
 rw [Bool.eq_false_iff]
 intro e
 have := (List.isPrefixOf_iff_prefix.1 e).length_le
 omega
theorem lHasPrefix_ok (s p : Str) : sl_HasPrefix s p = some (p.isPrefixOf s) := by
 apply sl_HasPrefix_run
 unfold sl_HasPrefix_B
 by_cases h : p.length ≤ s.length
 ·rw [show decide ((List.length s : Int) ≥ (List.length p : Int)) = true by simp; exact h, tslc_ok (by omega), pre_take p s h]
  simp [cnd, bnd]
 ·rw [show decide ((List.length s : Int) ≥ (List.length p : Int)) = false by simp; omega, pre_long p s (by omega)]
  rfl
theorem HasPrefix_ok (s p : Str) : st_HasPrefix s p = some (p.isPrefixOf s) := by
 apply st_HasPrefix_run
 unfold st_HasPrefix_B
 rw [lHasPrefix_ok]; rfl
theorem pre1 (c : UInt8) (s : Str) : [c].isPrefixOf s = (s.head? == some c) := by
 cases s with
 | nil => rfl
 | cons d r =>
  simp only [List.isPrefixOf, List.head?_cons, Bool.and_true]
  rw [Bool.eq_iff_iff, beq_iff_eq, beq_iff_eq, Option.some.injEq]; exact eq_comm
theorem tw_loop {b : Int → Option (Int ⊕ Int)} (s : Str) (p : UInt8 → Bool) (o : Nat)
  (hend : ∀ n : Nat, o + n = s.length → b (n : Int) = some (.inr (n : Int)))
  (hstep : ∀ (n : Nat) x, s[o + n]? = some x → b (n : Int) = some (if p x then .inl ((n + 1 : Nat) : Int) else .inr (n : Int))) :
  ∀ (m n : Nat), s.length - (o + n) ≤ m → o + n ≤ s.length → tloop b (n : Int) = some (((n + ((s.drop (o + n)).takeWhile p).length : Nat)) : Int) := by
 intro m
 induction m with
 | zero =>
  intro n h1 h2
  rw [tloop_exit (hend n (by omega)), show o + n = s.length by omega, List.drop_length]; simp
 | succ m ih =>
  intro n h1 h2
  by_cases he : o + n = s.length
  ·rw [tloop_exit (hend n he), he, List.drop_length]; simp
  ·have hg : s[o + n]? = some (s[o + n]'(by omega)) := List.getElem?_eq_getElem (by omega)
   rw [drop_cons hg, List.takeWhile_cons]
   have hb := hstep n _ hg
   cases hp : p (s[o + n]'(by omega)) with
   | true =>
    rw [hp, if_pos rfl] at hb
    rw [tloop_next hb, ih (n + 1) (by omega) (by omega)]
    simp only [if_true, List.length_cons, Nat.add_assoc]
    congr 2
    omega
   | false =>
    rw [hp] at hb
    rw [tloop_exit hb]; simp
theorem digits_ok (s : Str) (hs : s.length ≤ 1073741824) : to_digits s = some ((digs s : Nat) : Int) := by
 apply to_digits_run
 unfold to_digits_B
 have := tw_loop (b := to_digits_l1T s) s isD 0 (fun n hn => by
   simp only [to_digits_l1T]
   rw [show decide ((n : Int) < (List.length s : Int)) = false from ltF (by omega)]; rfl) (fun n x hx => by
   rw [Nat.zero_add] at hx
   have hlt := getElem?_lt hx
   simp only [to_digits_l1T]
   rw [show decide ((n : Int) < (List.length s : Int)) = true from ltT hlt, nthI_nat, hx]
   simp only [cnd, bnd, ls_Digit_ok]
   rw [wadd (by omega)]
   show cnd (isD x) _ _ = _
   cases isD x <;> rfl) (s.length) 0 (by omega) (by omega)
 rw [show ((0 : Nat) : Int) = 0 from rfl] at this
 rw [this]
 simp [digs, bnd]
theorem word_ok (s : Str) (hs : s.length ≤ 1073741824) (c : UInt8) (r : Str) (hc : s = c :: r) (hl : isL c = true) : to_word s = some ((wordN s : Nat) : Int) := by
 apply to_word_run
 unfold to_word_B
 have := tw_loop (b := to_word_l1T s) s inName 0 (fun n hn => by
   simp only [to_word_l1T]
   rw [show decide ((n : Int) < (List.length s : Int)) = false from ltF (by omega)]; rfl) (fun n x hx => by
   rw [Nat.zero_add] at hx
   have hlt := getElem?_lt hx
   simp only [to_word_l1T]
   rw [show decide ((n : Int) < (List.length s : Int)) = true from ltT hlt, nthI_nat, hx]
   simp only [cnd, bnd, ls_Letter_ok, ls_Digit_ok]
   rw [wadd (by omega)]
   unfold inName
   cases hx2 : letter (x.toNat : Int) with
   | true => rfl
   | false =>
    have hn : 0 < n := by
     rcases Nat.eq_zero_or_pos n with h | h
     ·subst h; rw [hc] at hx; simp at hx; subst hx; unfold isL at hl; rw [hl] at hx2; cases hx2
     ·exact h
    rw [show decide ((n : Int) > 0) = true by simp; omega]
    simp only [cnd, Bool.false_or]
    cases digit (x.toNat : Int) <;> rfl) (s.length) 0 (by omega) (by omega)
 rw [show ((0 : Nat) : Int) = 0 from rfl] at this
 rw [this]
 simp [wordN, bnd]
theorem tslc_from (s : Str) (k : Nat) (h : k ≤ s.length) : tslc s (k : Int) (List.length s : Int) = some (s.drop k) := tslc_dropI s k h
theorem nz {n : Nat} : ((n : Int) == 0) = (n == 0) := by
 rw [Bool.eq_iff_iff, beq_iff_eq, beq_iff_eq]; omega
theorem digs_lt {s : Str} (h : digs s ≠ 0) : ∃ c r, s = c :: r ∧ isD c = true := by
 cases s with
 | nil => exact absurd rfl h
 | cons c r =>
  refine ⟨c, r, rfl, ?_⟩
  unfold digs at h
  rw [List.takeWhile_cons] at h
  cases hd : isD c with
  | true => rfl
  | false => rw [hd] at h; simp at h
theorem whole_ok (s : Str) (hs : s.length ≤ 1073741824) : to_whole s = some ((wholeN s : Nat) : Int) := by
 apply to_whole_run
 unfold to_whole_B
 rw [HasPrefix_ok, pre1]
 simp only [bnd]
 have hsl := sgn_le s
 have key : ∀ (k : Nat), k = sgn s → k ≤ 1 → bnd (tslc s (k : Int) (List.length s : Int)) (fun y4 => bnd (to_digits y4) fun y6 => cnd (y6 == 0) (some (0 : Int)) (bnd (nthI s (k : Int)) fun y8 => cnd ((y8.toNat : Int) == 48) (some ((k + 1 : Nat) : Int)) (some (IntKind.wrap .i64 ((k : Int) + y6))))) = some ((wholeN s : Nat) : Int) := by
  intro k hk h1
  rw [tslc_from s k (by omega)]
  simp only [bnd]
  rw [digits_ok _ (by rw [List.length_drop]; omega)]
  simp only [bnd, nz, wholeN, ← hk]
  by_cases h0 : digs (s.drop k) = 0
  ·rw [h0]; rfl
  ·rw [beq_eq_false_iff_ne.2 h0, if_neg h0]
   simp only [cnd]
   obtain ⟨c, r, hc, _⟩ := digs_lt h0
   have hg : s[k]? = some c := by
    have : (s.drop k)[0]? = some c := by rw [hc]; rfl
    rw [List.getElem?_drop] at this; exact this
   rw [nthI_nat, hg]
   simp only [bnd, u48]
   by_cases hz : c = 48
   ·subst hz; simp [cnd]
   ·rw [beq_eq_false_iff_ne.2 hz, if_neg (fun e => hz (Option.some.inj e))]
    simp only [cnd]
    have := digs_le (s.drop k)
    rw [List.length_drop] at this
    rw [wi (by omega)]; rfl
 by_cases h : s.head? = some 45
 ·have hk : sgn s = 1 := if_pos h
  rw [show (s.head? == some 45) = true from beq_iff_eq.2 h]
  have := key 1 hk.symm (by omega)
  simp only [cnd]
  exact this
 ·have hk : sgn s = 0 := if_neg h
  rw [show (s.head? == some 45) = false from beq_eq_false_iff_ne.2 h]
  have := key 0 hk.symm (by omega)
  simp only [cnd]
  exact this
theorem power_ok (s : Str) (hs : s.length ≤ 1073741824) : to_power s = some ((powN s : Nat) : Int) := by
 apply to_power_run
 unfold to_power_B
 cases s with
 | nil => rfl
 | cons c r =>
  rw [show ((c :: r : Str) == ([] : Str)) = false from rfl]
  simp only [cnd]
  rw [show (0 : Int) = ((0 : Nat) : Int) from rfl, nthI_nat]
  simp only [List.getElem?_cons_zero, bnd, bne, u101, u69]
  have tail : (c = 101 ∨ c = 69) → cnd (decide ((List.length (c :: r) : Int) > 1))
    (bnd (nthI (c :: r) 1) fun y6 =>
    cnd ((y6.toNat : Int) == 43)
    (bnd (tslc (c :: r) 2 (List.length (c :: r))) fun y8 => bnd (to_digits y8) fun y10 => cnd (y10 == 0) (some 0) (some (IntKind.wrap .i64 (2 + y10))))
    (bnd (nthI (c :: r) 1) fun y12 =>
    cnd ((y12.toNat : Int) == 45)
     (bnd (tslc (c :: r) 2 (List.length (c :: r))) fun y14 => bnd (to_digits y14) fun y16 => cnd (y16 == 0) (some 0) (some (IntKind.wrap .i64 (2 + y16))))
     (bnd (tslc (c :: r) 1 (List.length (c :: r))) fun y18 => bnd (to_digits y18) fun y20 => cnd (y20 == 0) (some 0) (some (IntKind.wrap .i64 (1 + y20))))))
    (bnd (tslc (c :: r) 1 (List.length (c :: r))) fun y22 => bnd (to_digits y22) fun y24 => cnd (y24 == 0) (some 0) (some (IntKind.wrap .i64 (1 + y24)))) = some ((powN (c :: r) : Nat) : Int) := by
   intro hc
   have hp : powN (c :: r) = if digs ((c :: r).drop (expS (c :: r))) = 0 then 0 else expS (c :: r) + digs ((c :: r).drop (expS (c :: r))) := by
    unfold powN
    rw [if_pos (by simpa using hc)]
   have fin : ∀ k : Nat, k = expS (c :: r) → k ≤ (c :: r).length → bnd (tslc (c :: r) (k : Int) (List.length (c :: r) : Int)) (fun y8 => bnd (to_digits y8) fun y10 => cnd (y10 == 0) (some (0 : Int)) (some (IntKind.wrap .i64 ((k : Int) + y10)))) = some ((powN (c :: r) : Nat) : Int) := by
    intro k hk hle
    rw [tslc_from _ k hle, hp, ← hk]
    simp only [bnd]
    rw [digits_ok _ (by rw [List.length_drop]; omega)]
    simp only [bnd, nz]
    by_cases h0 : digs ((c :: r).drop k) = 0
    ·rw [h0]; rfl
    ·rw [beq_eq_false_iff_ne.2 h0, if_neg h0]
     have := digs_le ((c :: r).drop k)
     rw [List.length_drop] at this
     simp only [cnd]
     rw [wi (by omega)]; rfl
   have f1 := fin 1
   have f2 := fin 2
   cases r with
   | nil =>
    rw [show decide ((List.length [c] : Int) > 1) = false from rfl]
    simp only [cnd]
    exact f1 (by simp [expS]) (by simp [List.length])
   | cons d r' =>
    rw [show decide ((List.length (c :: d :: r') : Int) > 1) = true by simp; omega, show (1 : Int) = ((1 : Nat) : Int) from rfl, nthI_nat]
    simp only [cnd, bnd, List.getElem?_cons_succ, List.getElem?_cons_zero, u43, u45]
    by_cases h43 : d = 43
    ·subst h43
     simp only [beq_self_eq_true]
     exact f2 (by simp [expS]) (by simp)
    ·rw [beq_eq_false_iff_ne.2 h43]
     simp only []
     by_cases h45 : d = 45
     ·subst h45
      simp only [beq_self_eq_true]
      exact f2 (by simp [expS]) (by simp)
     ·rw [beq_eq_false_iff_ne.2 h45]
      exact f1 (by simp [expS, h43, h45]) (by simp)
  by_cases h1 : c = 101
  ·subst h1
   simp only [beq_self_eq_true, Bool.not_true]
   exact tail (.inl rfl)
  ·rw [beq_eq_false_iff_ne.2 h1]
   simp only [Bool.not_false]
   by_cases h2 : c = 69
   ·subst h2
    simp only [beq_self_eq_true, Bool.not_true]
    exact tail (.inr rfl)
   ·rw [beq_eq_false_iff_ne.2 h2]
    simp only [Bool.not_false]
    unfold powN
    rw [if_neg (by simp [h1, h2])]
theorem number_ok (s : Str) (hs : s.length ≤ 1073741824) : to_number s = some (((numN s).1 : Int), (numN s).2) := by
 apply to_number_run
 unfold to_number_B
 rw [whole_ok s hs]
 simp only [bnd, nz, numN]
 by_cases h0 : wholeN s = 0
 ·rw [h0]; rfl
 ·rw [beq_eq_false_iff_ne.2 h0, if_neg h0]
  have hw := wholeN_le s
  simp only [cnd, jn]
  have kk : ∀ (n : Nat) (kind : Int), n ≤ s.length → bnd (tslc s (n : Int) (List.length s : Int)) (fun y17 => bnd (to_power y17) fun y19 => cnd (decide (y19 > 0)) (some ((IntKind.wrap .i64 ((n : Int) + y19)), (4 : Int))) (some ((n : Int), kind))) = some (((expN s (n, kind)).1 : Int), (expN s (n, kind)).2) := by
   intro n kind hn
   rw [tslc_from s n hn]
   simp only [bnd]
   rw [power_ok _ (by rw [List.length_drop]; omega)]
   have hp := powN_le (s.drop n)
   rw [List.length_drop] at hp
   simp only [bnd, expN]
   by_cases h : 0 < powN (s.drop n)
   ·rw [show decide (((powN (s.drop n) : Nat) : Int) > 0) = true by simp; omega, if_pos h, wi (by omega)]; rfl
   ·rw [show decide (((powN (s.drop n) : Nat) : Int) > 0) = false by simp; omega, if_neg h]; rfl
  rw [tslc_from s _ hw]
  simp only [bnd]
  rw [HasPrefix_ok, pre1]
  simp only [bnd, List.head?_drop]
  by_cases h46 : s[wholeN s]? = some 46
  ·have hlt := getElem?_lt h46
   rw [h46]
   simp only [beq_self_eq_true, cnd]
   rw [wi (by omega), show ((wholeN s : Nat) : Int) + 1 = ((wholeN s + 1 : Nat) : Int) by omega, tslc_from s _ (by omega)]
   simp only [bnd]
   have hd := digs_le (s.drop (wholeN s + 1))
   rw [List.length_drop] at hd
   rw [digits_ok _ (by rw [List.length_drop]; omega)]
   simp only [bnd]
   by_cases h : 0 < digs (s.drop (wholeN s + 1))
   ·rw [show decide (((digs (s.drop (wholeN s + 1)) : Nat) : Int) > 0) = true by simp; omega]
    simp only []
    rw [wi (by omega), show ((wholeN s + 1 : Nat) : Int) + ((digs (s.drop (wholeN s + 1)) : Nat) : Int) = ((wholeN s + 1 + digs (s.drop (wholeN s + 1)) : Nat) : Int) by omega]
    have := kk (wholeN s + 1 + digs (s.drop (wholeN s + 1))) 4 (by omega)
    unfold pointN
    rw [if_pos ⟨h46, h⟩]
    exact this
   ·rw [show decide (((digs (s.drop (wholeN s + 1)) : Nat) : Int) > 0) = false by simp; omega]
    simp only []
    unfold pointN
    rw [if_neg (fun e => h e.2)]
    have := kk _ 3 hw
    rw [tslc_from s _ hw] at this
    exact this
  ·rw [beq_eq_false_iff_ne.2 h46]
   simp only [cnd]
   unfold pointN
   rw [if_neg (fun e => h46 e.1)]
   have := kk _ 3 hw
   rw [tslc_from s _ hw] at this
   exact this
theorem IndexByte_ok (l : Str) (c : UInt8) : st_IndexByte l (c.toNat : Int) = some (idxB l c) := by
 apply st_IndexByte_run
 have := c.toNat_lt
 unfold tIndexByte
 rw [if_pos (by omega)]
 simp
def hexs : Str := [48, 49, 50, 51, 52, 53, 54, 55, 56, 57, 97, 98, 99, 100, 101, 102]
def hexOk (c : UInt8) : Bool :=
 match tIndexByte hexs (bits .or .u8 (c.toNat : Int) 32) with
 | none => false
 | some k =>
  if k < 0 ∨ c.toNat < 48 ∨ (57 < c.toNat ∧ c.toNat < 65) then hexV c == none
  else match hexV c with
   | none => false
   | some d => decide ((d : Int) = k) && decide (d < 16)
theorem hexOk_all : ∀ c, hexOk c = true := u8all (by decide +kernel)
theorem hexF_short : ∀ (n : Nat) (s : Str) (v : Nat), s.length < n → hexF n s v = none
 | 0, _, _, h => by omega
 | n + 1, [], _, _ => rfl
 | n + 1, c :: r, v, h => by
  unfold hexF
  split
  ·rfl
  ·exact hexF_short n r _ (by simpa using h)
theorem unit_loop (s : Str) (hs : s.length ≤ 1073741824) (h4 : 4 ≤ s.length) : ∀ (n t u : Nat), t + n = 4 → u < 16 ^ t →
  tloop (to_Unit_l1T s) ((u : Int), (t : Int)) = some (match hexF n (s.drop t) u with | some v => .inl (v : Int) | none => .inr ()) := by
 intro n
 induction n with
 | zero =>
  intro t u ht hu
  have : t = 4 := by omega
  subst this
  exact tloop_exit rfl
 | succ n ih =>
  intro t u ht hu
  have hg : s[t]? = some (s[t]'(by omega)) := List.getElem?_eq_getElem (by omega)
  rw [drop_cons hg]
  generalize s[t]'(by omega) = c at hg ⊢
  have hk := hexOk_all c
  unfold hexOk at hk
  have hb : to_Unit_l1T s ((u : Int), (t : Int)) = some (match hexV c with | some d => .inl (((16 * u + d : Nat) : Int), ((t + 1 : Nat) : Int)) | none => .inr (.inr ())) := by
   have hu2 : u < 65536 := by
    have : 16 ^ t ≤ 16 ^ 4 := Nat.pow_le_pow_right (by omega) (by omega)
    omega
   simp only [to_Unit_l1T]
   rw [show decide ((t : Int) < 4) = true from decide_eq_true (by omega), nthI_nat, hg]
   simp only [cnd, bnd]
   cases hi : tIndexByte hexs (bits .or .u8 (c.toNat : Int) 32) with
   | none => rw [hi] at hk; cases hk
   | some k =>
    rw [hi] at hk
    have e := st_IndexByte_run hi
    unfold hexs at e
    rw [e]
    simp only [] at hk ⊢
    by_cases h1 : k < 0
    ·rw [if_pos (.inl h1)] at hk
     rw [decide_eq_true h1, eq_of_beq hk]
    ·rw [decide_eq_false h1]
     simp only []
     by_cases h2 : c.toNat < 48
     ·rw [if_pos (.inr (.inl h2))] at hk
      rw [show decide ((c.toNat : Int) < 48) = true from decide_eq_true (by omega), eq_of_beq hk]
     ·rw [show decide ((c.toNat : Int) < 48) = false from decide_eq_false (by omega)]
      simp only []
      have fin : ¬ (57 < c.toNat ∧ c.toNat < 65) → some (Sum.inl ((IntKind.wrap .i64 ((IntKind.wrap .i64 (16 * (u : Int))) + k)), (IntKind.wrap .i64 ((t : Int) + 1)))) = some (match hexV c with | some d => (.inl (((16 * u + d : Nat) : Int), ((t + 1 : Nat) : Int)) : (Int × Int) ⊕ (Int ⊕ Unit)) | none => .inr (.inr ())) := by
       intro h3
       rw [if_neg (by omega)] at hk
       cases hv : hexV c with
       | none => rw [hv] at hk; cases hk
       | some d =>
        rw [hv] at hk
        simp only [Bool.and_eq_true, decide_eq_true_eq] at hk
        rw [← hk.1, wi (n := 16 * (u : Int)) (by omega), wi (by omega), wadd (by omega)]
        simp
      by_cases h3 : c.toNat > 57
      ·rw [show decide ((c.toNat : Int) > 57) = true from decide_eq_true (by omega)]
       simp only []
       by_cases h4 : c.toNat < 65
       ·rw [if_pos (.inr (.inr ⟨h3, h4⟩))] at hk
        rw [show decide ((c.toNat : Int) < 65) = true from decide_eq_true (by omega), eq_of_beq hk]
       ·rw [show decide ((c.toNat : Int) < 65) = false from decide_eq_false (by omega)]
        exact fin (by omega)
      ·rw [show decide ((c.toNat : Int) > 57) = false from decide_eq_false (by omega)]
       exact fin (by omega)
  unfold hexF
  cases hv : hexV c with
  | none =>
   rw [hv] at hb
   exact tloop_exit hb
  | some d =>
   rw [hv] at hb
   rw [tloop_next hb]
   refine ih (t + 1) _ (by omega) ?_
   have hd16 : d < 16 := by
    rw [hv] at hk
    split at hk
    ·cases hk
    ·split at hk
     ·cases hk
     ·simp at hk; exact hk.2
   rw [Nat.pow_succ]
   omega
theorem Unit_ok (s : Str) (hs : s.length ≤ 1073741824) : to_Unit s = some (match unit4 s with | some v => ((v : Int), true) | none => (0, false)) := by
 apply to_Unit_run
 unfold to_Unit_B unit4
 by_cases h : s.length < 4
 ·rw [show decide ((List.length s : Int) < 4) = true from decide_eq_true (by omega), hexF_short 4 s 0 h]; rfl
 ·rw [show decide ((List.length s : Int) < 4) = false from decide_eq_false (by omega)]
  have := unit_loop s hs (by omega) 4 0 0 rfl (by omega)
  rw [List.drop_zero] at this
  simp only [cnd]
  rw [show ((0 : Int), (0 : Int)) = (((0 : Nat) : Int), ((0 : Nat) : Int)) from rfl, this]
  cases hexF 4 s 0 <;> rfl
def jb (us : List Int) : Str := match joinU us with
 | some l => encL8 l
 | none => []
def jok (us : List Int) : Bool := (joinU us).isSome
theorem encL8_len (l : List Nat) : (encL8 l).length ≤ 4 * l.length := by
 induction l with
 | nil => simp [encL8]
 | cons c l ih =>
  have := (encC_pos c).2
  have e : encL8 (c :: l) = encC c ++ encL8 l := rfl
  rw [e, List.length_append, List.length_cons]; omega
theorem jb_len (us : List Int) : (jb us).length ≤ 4 * us.length := by
 unfold jb
 cases h : joinU us with
 | none => simp
 | some l =>
  have := encL8_len l
  have := (u16_joinU us.length us l (Nat.le_refl _) h).2.2
  simp only []; omega
theorem joins_ok (us : List Int) (hu : us.length ≤ 1073741824) : ls_Join us = some (jb us, jok us) := by
 rw [ls_Join_ok us hu]
 unfold jb jok
 cases joinU us <;> rfl
theorem intsT_len (s : Str) : (intsT s).length = s.length := by simp [intsT]
theorem flush2_ok (b : Str) (us : List Int) (ok : Bool) (hb : b.length ≤ 17179869184) (hu : us.length ≤ 1073741824) : tf_i2 (intsT b) us ok = some (GTokenSaid.mk (intsT (b ++ jb us)) [] (ok && jok us)) := by
 apply tf_i2_run
 unfold tf_i2_B
 rw [joins_ok us hu]
 simp only [bnd]
 have := jb_len us
 rw [tapp_ok (by rw [intsT_len, intsT_len, lim_val]; omega), intsT_append]
 cases ok <;> rfl
theorem flush3_ok (b : Str) (us : List Int) (ok : Bool) (hb : b.length ≤ 17179869184) (hu : us.length ≤ 1073741824) : tf_i3 (intsT b) us ok = some (GTokenSaid.mk (intsT (b ++ jb us)) [] (ok && jok us)) := by
 apply tf_i3_run
 unfold tf_i3_B
 rw [joins_ok us hu]
 simp only [bnd]
 have := jb_len us
 rw [tapp_ok (by rw [intsT_len, intsT_len, lim_val]; omega), intsT_append]
 cases ok <;> rfl
def escOk (c : UInt8) : Bool :=
 if idxB escL c < 0 then escV c == none else decide (0 ≤ idxB escL c) && (match escR[(idxB escL c).toNat]? with | some e => escV c == some e | none => false)
theorem escOk_all : ∀ c, escOk c = true := u8all (by decide +kernel)
def escF (r : Str) (b : Str) (us : List Int) (ok : Bool) : Int × GTokenSaid :=
 if r.head? = some 117 then (match unit4 (r.drop 1) with
  | none => (0, GTokenSaid.mk (intsT b) us ok)
  | some v => (5, GTokenSaid.mk (intsT b) (us ++ [(v : Int)]) ok))
 else match r with
  | [] => (0, GTokenSaid.mk (intsT b) us ok)
  | d :: _ => match escV d with
   | none => (0, GTokenSaid.mk (intsT b) us ok)
   | some e => (1, GTokenSaid.mk (intsT (b ++ jb us ++ [e])) [] (ok && jok us))
theorem escaped_ok (r b : Str) (us : List Int) (ok : Bool) (hr : r.length ≤ 1073741824) (hb : b.length ≤ 8589934592) (hu : us.length ≤ 1073741823) : te_i1 r (intsT b) us ok = some (escF r b us ok) := by
 apply te_i1_run
 unfold te_i1_B escF
 rw [HasPrefix_ok, pre1]
 simp only [bnd]
 by_cases h : r.head? = some 117
 ·rw [show (r.head? == some 117) = true from beq_iff_eq.2 h, if_pos h]
  have hl : 1 ≤ r.length := by cases r with
   | nil => cases h
   | cons _ _ => simp
  simp only [cnd]
  rw [show (1 : Int) = ((1 : Nat) : Int) from rfl, tslc_from r 1 hl]
  simp only []
  rw [Unit_ok _ (by rw [List.length_drop]; omega)]
  cases unit4 (r.drop 1) with
  | none => rfl
  | some v =>
   simp only [Bool.not_true]
   rw [tapp_ok (by rw [lim_val]; simp; omega)]
 ·rw [beq_eq_false_iff_ne.2 h, if_neg h]
  simp only [cnd]
  cases r with
  | nil => rfl
  | cons d r' =>
   rw [show ((d :: r' : Str) == ([] : Str)) = false from rfl, show (0 : Int) = ((0 : Nat) : Int) from rfl, nthI_nat]
   simp only [List.getElem?_cons_zero]
   rw [show st_IndexByte [34, 92, 47, 98, 102, 110, 114, 116] (d.toNat : Int) = some (idxB escL d) from IndexByte_ok _ d]
   simp only []
   have hk := escOk_all d
   unfold escOk at hk
   by_cases h0 : idxB escL d < 0
   ·rw [if_pos h0] at hk
    rw [show decide (idxB escL d < ((0 : Nat) : Int)) = true from decide_eq_true h0, eq_of_beq hk]
   ·rw [if_neg h0] at hk
    rw [show decide (idxB escL d < ((0 : Nat) : Int)) = false from decide_eq_false h0]
    simp only [Bool.and_eq_true, decide_eq_true_eq] at hk
    rw [flush2_ok b us ok (by omega) (by omega)]
    simp only []
    cases he : escR[(idxB escL d).toNat]? with
    | none => rw [he] at hk; cases hk.2
    | some e =>
     rw [he] at hk
     have hv := eq_of_beq hk.2
     rw [hv]
     have hn : nthI ([34, 92, 47, 8, 12, 10, 13, 9] : Str) (idxB escL d) = some e := by
      have := nthI_nat escR (idxB escL d).toNat
      rw [Int.toNat_of_nonneg (by omega), he] at this
      exact this
     rw [hn]
     have := jb_len us
     simp only []
     rw [tapp_ok (by rw [intsT_len, lim_val, List.length_append]; simp; omega), show [((e.toNat : Nat) : Int)] = intsT [e] from rfl, ← intsT_append]
theorem plain_ok (c : UInt8) : to_plain (c.toNat : Int) = some (c != 10 && c != 13) := by
 apply to_plain_run
 unfold to_plain_B
 simp only [bne, u10, u13]
 cases c == 10 <;> rfl
theorem quo_bad {c : UInt8} {r out : Str} {us : List Int} (h : jok us = false) (hu : ¬ (c = 92 ∧ r.head? = some 117)) : quo (c :: r) out us = none := by
 rw [quo_cons, if_neg hu]
 unfold jok at h
 cases hj : joinU us with
 | none => rfl
 | some l => rw [hj] at h; cases h
theorem quo_good {c : UInt8} {r out : Str} {us : List Int} (h : jok us = true) (hu : ¬ (c = 92 ∧ r.head? = some 117)) : quo (c :: r) out us =
  if c = 34 then some (out ++ jb us, r)
  else if c = 10 ∨ c = 13 then none
  else if c = 92 then
   match (generalizing := false) r with
   | [] => none
   | d :: r' => match escV d with
    | none => none
    | some e => quo r' (out ++ jb us ++ [e]) []
  else quo r (out ++ jb us ++ [c]) [] := by
 rw [quo_cons, if_neg hu]
 unfold jok at h
 unfold jb
 cases hj : joinU us with
 | none => rw [hj] at h; cases h
 | some l => cases r <;> rfl
def qI (s : Str) (R : Option (Str × Str)) (st : Int × List Int × List Int × Bool) : Prop :=
 ∃ (i : Nat) (bb : Str), st.1 = i ∧ st.2.1 = intsT bb ∧ i ≤ s.length ∧ bb.length + 4 * st.2.2.1.length ≤ 8 * i ∧ st.2.2.1.length ≤ i ∧
 (st.2.2.2 = true → quo (s.drop i) bb st.2.2.1 = R) ∧ (st.2.2.2 = false → R = none)
def qQ (s : Str) (R : Option (Str × Str)) : Unit ⊕ (Int × List Int × List Int × Bool) → Prop
 | .inl _ => R = none
 | .inr st => qI s R st ∧ ∃ i : Nat, st.1 = i ∧ s[i]? = some 34
theorem wadd2 {n k : Nat} (h : n + k ≤ 9223372036854775807) : IntKind.wrap .i64 ((n : Int) + (k : Int)) = ((n + k : Nat) : Int) := by rw [wi (by omega)]; omega
theorem quoted_loop (s : Str) (hs : s.length ≤ 1073741000) (h1 : 1 ≤ s.length) :
  ∃ r, tloop (to_Quoted_l1T s) (1, [], [], true) = some r ∧ qQ s (quo (s.drop 1) [] []) r := by
 refine tloop_inv (b := to_Quoted_l1T s) (qI s (quo (s.drop 1) [] [])) (fun st => s.length - st.1.toNat) (qQ s (quo (s.drop 1) [] [])) ?_ _ ⟨1, [], rfl, rfl, h1, by simp, by simp, fun _ => rfl, fun h => by cases h⟩
 generalize quo (s.drop 1) [] [] = R
 rintro ⟨i', b', us, ok⟩ ⟨i, bb, hi, hb, hle, hlen, hlu, hR, hN⟩
 simp only at hi hb hlen hlu hR hN
 subst hi hb
 by_cases hend : s.length ≤ i
 ·left
  refine ⟨.inl (), ?_, ?_⟩
  ·simp only [to_Quoted_l1T]
   rw [show decide ((i : Int) ≥ (List.length s : Int)) = true from decide_eq_true (by omega)]; rfl
  ·show R = none
   cases ok with
   | true =>
    have := hR rfl
    rw [List.drop_eq_nil_of_le hend, quo_nil] at this
    exact this.symm
   | false => exact hN rfl
 ·have hg : s[i]? = some (s[i]'(by omega)) := List.getElem?_eq_getElem (by omega)
  rw [drop_cons hg] at hR
  generalize s[i]'(by omega) = c at hg hR
  simp only [to_Quoted_l1T]
  rw [show decide ((i : Int) ≥ (List.length s : Int)) = false from decide_eq_false (by omega), nthI_nat, hg]
  simp only [cnd, bnd, u34, u92]
  by_cases h34 : c = 34
  ·left
   subst h34
   exact ⟨_, rfl, ⟨i, bb, rfl, rfl, hle, hlen, hlu, fun h => by rw [drop_cons hg]; exact hR h, hN⟩, i, rfl, hg⟩
  ·rw [beq_eq_false_iff_ne.2 h34]
   simp only []
   by_cases h92 : c = 92
   ·subst h92
    rw [show ((92 : UInt8) == 92) = true from rfl]
    simp only []
    rw [wadd (by omega), tslc_from s (i + 1) (by omega)]
    simp only []
    rw [escaped_ok _ bb us ok (by rw [List.length_drop]; omega) (by omega) (by omega)]
    simp only []
    unfold escF
    by_cases hh : (s.drop (i + 1)).head? = some 117
    ·rw [if_pos hh]
     have q0 : ∀ o u, quo (92 :: s.drop (i + 1)) o u = match unit4 ((s.drop (i + 1)).drop 1) with
       | none => none
       | some v => quo ((s.drop (i + 1)).drop 5) o (u ++ [(v : Int)]) := by
      intro o u; rw [quo_cons, if_pos ⟨rfl, hh⟩] <;> cases unit4 ((s.drop (i + 1)).drop 1) <;> rfl
     cases hv : unit4 ((s.drop (i + 1)).drop 1) with
     | none =>
      left
      refine ⟨.inl (), rfl, ?_⟩
      show R = none
      cases ok with
      | true => rw [← hR rfl, q0, hv]
      | false => exact hN rfl
     | some v =>
      right
      have hl4 : i + 6 ≤ s.length := by
       rcases Nat.lt_or_ge s.length (i + 6) with h | h
       ·unfold unit4 at hv
        rw [hexF_short 4 _ 0 (by simp only [List.length_drop]; omega)] at hv
        cases hv
       ·exact h
      refine ⟨_, rfl, ⟨i + 6, bb, ?_, rfl, hl4, ?_, ?_, ?_, hN⟩, ?_⟩
      ·show IntKind.wrap .i64 ((i : Int) + IntKind.wrap .i64 (1 + 5)) = _
       rw [show IntKind.wrap .i64 (1 + 5) = ((6 : Nat) : Int) from rfl, wadd2 (by omega)]
      ·simp only [List.length_append, List.length_cons, List.length_nil]; omega
      ·simp only [List.length_append, List.length_cons, List.length_nil]; omega
      ·intro h
       have := hR h
       rw [q0, hv] at this
       simp only [List.drop_drop] at this
       exact this
      ·show s.length - (IntKind.wrap .i64 ((i : Int) + IntKind.wrap .i64 (1 + 5))).toNat < s.length - ((i : Int)).toNat
       rw [show IntKind.wrap .i64 (1 + 5) = ((6 : Nat) : Int) from rfl, wadd2 (by omega)]
       omega
    ·rw [if_neg hh]
     have hu : ¬ ((92 : UInt8) = 92 ∧ (s.drop (i + 1)).head? = some 117) := fun e => hh e.2
     cases hr : s.drop (i + 1) with
     | nil =>
      left
      refine ⟨.inl (), rfl, ?_⟩
      show R = none
      cases ok with
      | true =>
       rw [← hR rfl, hr]
       cases hj : jok us with
       | true => rw [quo_good hj (by rw [hr] at hu; exact hu)]; rfl
       | false => rw [quo_bad hj (by rw [hr] at hu; exact hu)]
      | false => exact hN rfl
     | cons d r' =>
      have hd1 : s[i + 1]? = some d := by
       have : (s.drop (i + 1))[0]? = some d := by rw [hr]; rfl
       rw [List.getElem?_drop] at this; exact this
      have hr' : r' = s.drop (i + 2) := by
       have := drop_cons hd1
       rw [hr] at this
       exact (List.cons.inj this).2
      rw [hr] at hu hR
      cases hv : escV d with
      | none =>
       left
       simp only [hv]
       refine ⟨.inl (), rfl, ?_⟩
       show R = none
       cases ok with
       | true =>
        rw [← hR rfl]
        cases hj : jok us with
        | true =>
         rw [quo_good hj hu]
         simp only [hv]
         rfl
        | false => rw [quo_bad hj hu]
       | false => exact hN rfl
      | some e =>
       right
       simp only [hv]
       have hlt := getElem?_lt hd1
       have hjl := jb_len us
       refine ⟨_, rfl, ⟨i + 2, bb ++ jb us ++ [e], ?_, rfl, by omega, ?_, ?_, ?_, ?_⟩, ?_⟩
       ·show IntKind.wrap .i64 ((i : Int) + IntKind.wrap .i64 (1 + 1)) = _
        rw [show IntKind.wrap .i64 (1 + 1) = ((2 : Nat) : Int) from rfl, wadd2 (by omega)]
       ·simp only [List.length_append, List.length_cons, List.length_nil]; omega
       ·simp
       ·intro h
        have h' : (ok && jok us) = true := h
        rw [Bool.and_eq_true] at h'
        have := hR h'.1
        rw [quo_good h'.2 hu] at this
        simp only [hv] at this
        rw [← hr']
        exact this
       ·intro h
        have h' : (ok && jok us) = false := h
        cases ok with
        | true => rw [← hR rfl]; exact quo_bad (by simpa using h') hu
        | false => exact hN rfl
       ·show s.length - (IntKind.wrap .i64 ((i : Int) + IntKind.wrap .i64 (1 + 1))).toNat < s.length - ((i : Int)).toNat
        rw [show IntKind.wrap .i64 (1 + 1) = ((2 : Nat) : Int) from rfl, wadd2 (by omega)]
        omega
   ·rw [beq_eq_false_iff_ne.2 h92]
    simp only []
    rw [plain_ok]
    simp only []
    have hu : ¬ (c = 92 ∧ (s.drop (i + 1)).head? = some 117) := fun e => h92 e.1
    cases hp : (c != 10 && c != 13) with
    | false =>
     left
     refine ⟨.inl (), rfl, ?_⟩
     show R = none
     cases ok with
     | true =>
      rw [← hR rfl]
      cases hj : jok us with
      | true =>
       rw [quo_good hj hu, if_neg h34, if_pos]
       simp only [Bool.and_eq_false_iff, bne_eq_false_iff_eq] at hp
       exact hp
      | false => rw [quo_bad hj hu]
     | false => exact hN rfl
    | true =>
     right
     rw [Bool.and_eq_true, bne_iff_ne, bne_iff_ne] at hp
     have hjl := jb_len us
     rw [flush3_ok bb us ok (by omega) (by omega)]
     simp only [Bool.not_true]
     rw [tapp_ok (by rw [intsT_len, lim_val, List.length_append]; simp; omega), wadd (by omega), show [((c.toNat : Nat) : Int)] = intsT [c] from rfl, ← intsT_append]
     refine ⟨_, rfl, ⟨i + 1, bb ++ jb us ++ [c], rfl, rfl, by omega, ?_, by simp, ?_, ?_⟩, ?_⟩
     ·simp only [List.length_append, List.length_cons, List.length_nil]; omega
     ·intro h
      have h' : (ok && jok us) = true := h
      rw [Bool.and_eq_true] at h'
      have := hR h'.1
      rw [quo_good h'.2 hu, if_neg h34, if_neg (by simpa using hp), if_neg h92] at this
      exact this
     ·intro h
      have h' : (ok && jok us) = false := h
      cases ok with
      | true => rw [← hR rfl]; exact quo_bad (by simpa using h') hu
      | false => exact hN rfl
     ·show s.length - (((i + 1 : Nat) : Int)).toNat < s.length - ((i : Int)).toNat
      omega
theorem Quoted_ok (s : Str) (hs : s.length ≤ 1073741000) (h1 : 1 ≤ s.length) : to_Quoted s = some (match quo (s.drop 1) [] [] with | some p => (p.1, ((s.length - p.2.length : Nat) : Int)) | none => ([], 0)) := by
 apply to_Quoted_run
 unfold to_Quoted_B
 obtain ⟨r, hr, hq⟩ := quoted_loop s hs h1
 rw [hr]
 simp only [bnd]
 cases r with
 | inl _ =>
  have : quo (s.drop 1) [] [] = none := hq
  rw [this]; rfl
 | inr st =>
  obtain ⟨i', b', us, ok⟩ := st
  obtain ⟨⟨i, bb, hi, hb, hle, hlen, hlu, hR, hN⟩, j, hj, hg⟩ := hq
  simp only at hi hb hlen hlu hR hN hj
  subst hi hb
  have : i = j := by omega
  subst this
  have hlt := getElem?_lt hg
  simp only [elim]
  rw [flush3_ok bb us ok (by omega) (by omega)]
  simp only []
  have hu : ∀ r : Str, ¬ ((34 : UInt8) = 92 ∧ r.head? = some 117) := fun r e => absurd e.1 (by decide)
  cases ok with
  | false => rw [hN rfl]; rfl
  | true =>
   have h := hR rfl
   rw [drop_cons hg] at h
   cases hjk : jok us with
   | false => rw [← h, quo_bad hjk (hu _)]; rfl
   | true =>
    rw [← h, quo_good hjk (hu _), if_pos rfl]
    simp only [cnd, Bool.and_self, Bool.not_true]
    rw [bytesT_intsT, wadd (by omega)]
    simp only [List.length_drop]
    congr 3
    omega
def bI (s : Str) (R : Option (Str × Str)) (st : List Int × Int) : Prop :=
 ∃ (i : Nat) (rb : Str), st.2 = i ∧ st.1 = intsT rb ∧ i ≤ s.length ∧ rb.length ≤ i ∧ blk (s.drop i) rb = R
def bQ (s : Str) (R : Option (Str × Str)) : Unit ⊕ (List Int × Int) → Prop
 | .inl _ => R = none
 | .inr st => ∃ (i : Nat) (rb : Str), st.2 = i ∧ st.1 = intsT rb ∧ i + 3 ≤ s.length ∧ rb.length ≤ i ∧ R = some (rb, s.drop (i + 3))
theorem blocked_loop (s : Str) (hs : s.length ≤ 1073741000) (h3 : 3 ≤ s.length) :
  ∃ r, tloop (to_blocked_l1T s) ([], 3) = some r ∧ bQ s (blk (s.drop 3) []) r := by
 refine tloop_inv (b := to_blocked_l1T s) (bI s (blk (s.drop 3) [])) (fun st => s.length - st.2.toNat) (bQ s (blk (s.drop 3) [])) ?_ _ ⟨3, [], rfl, rfl, h3, by simp, rfl⟩
 generalize blk (s.drop 3) [] = R
 rintro ⟨b', i'⟩ ⟨i, rb, hi, hb, hle, hlen, hR⟩
 simp only at hi hb
 subst hi hb
 simp only [to_blocked_l1T]
 by_cases hend : s.length ≤ i
 ·left
  rw [show decide ((i : Int) ≥ (List.length s : Int)) = true from decide_eq_true (by omega)]
  refine ⟨_, rfl, ?_⟩
  show R = none
  rw [List.drop_eq_nil_of_le hend, blk_nil] at hR
  exact hR.symm
 ·have hg : s[i]? = some (s[i]'(by omega)) := List.getElem?_eq_getElem (by omega)
  generalize s[i]'(by omega) = c at hg
  have hd := drop_cons hg
  rw [show decide ((i : Int) ≥ (List.length s : Int)) = false from decide_eq_false (by omega), tslc_from s i hle]
  simp only [cnd, bnd]
  rw [HasPrefix_ok]
  simp only []
  rw [hd, blk_cons] at hR
  rw [hd]
  cases hp : [34, 34, 34].isPrefixOf (c :: s.drop (i + 1)) with
  | true =>
   left
   rw [if_pos hp] at hR
   have hl : 3 ≤ (c :: s.drop (i + 1)).length := (List.isPrefixOf_iff_prefix.1 hp).length_le
   rw [List.length_cons, List.length_drop] at hl
   refine ⟨_, rfl, i, rb, rfl, rfl, by omega, hlen, ?_⟩
   rw [← hR, List.drop_drop]
  | false =>
   right
   rw [if_neg (by rw [hp]; exact Bool.false_ne_true)] at hR
   simp only []
   rw [HasPrefix_ok]
   simp only []
   cases hp2 : [92, 34, 34, 34].isPrefixOf (c :: s.drop (i + 1)) with
   | true =>
    rw [if_pos hp2, List.drop_drop] at hR
    have hl : 4 ≤ (c :: s.drop (i + 1)).length := (List.isPrefixOf_iff_prefix.1 hp2).length_le
    rw [List.length_cons, List.length_drop] at hl
    simp only []
    rw [tapp_ok (by rw [intsT_len, intsT_len, lim_val]; simp; omega), ← intsT_append, show (4 : Int) = ((4 : Nat) : Int) from rfl, wadd2 (by omega)]
    refine ⟨_, rfl, ⟨i + 4, rb ++ [34, 34, 34], rfl, rfl, by omega, by simp; omega, hR⟩, ?_⟩
    show s.length - (((i + 4 : Nat) : Int)).toNat < s.length - ((i : Int)).toNat
    omega
   | false =>
    rw [if_neg (by rw [hp2]; exact Bool.false_ne_true)] at hR
    simp only []
    rw [nthI_nat, hg]
    simp only []
    rw [tapp_ok (by rw [intsT_len, lim_val]; simp; omega), show [((c.toNat : Nat) : Int)] = intsT [c] from rfl, ← intsT_append, wadd (by omega)]
    refine ⟨_, rfl, ⟨i + 1, rb ++ [c], rfl, rfl, by omega, by simp; omega, hR⟩, ?_⟩
    show s.length - (((i + 1 : Nat) : Int)).toNat < s.length - ((i : Int)).toNat
    omega
theorem blocked_ok (s : Str) (hs : s.length ≤ 1073741000) (h3 : 3 ≤ s.length) : to_blocked s = some (match blk (s.drop 3) [] with | some p => (value p.1, ((s.length - p.2.length : Nat) : Int)) | none => ([], 0)) := by
 apply to_blocked_run
 unfold to_blocked_B
 obtain ⟨r, hr, hq⟩ := blocked_loop s hs h3
 rw [hr]
 simp only [bnd]
 cases r with
 | inl _ =>
  have : blk (s.drop 3) [] = none := hq
  rw [this]; rfl
 | inr st =>
  obtain ⟨b', i'⟩ := st
  obtain ⟨i, rb, hi, hb, hle, hlen, hR⟩ := hq
  simp only at hi hb
  subst hi hb
  rw [hR]
  simp only [elim]
  rw [bytesT_intsT, Value_ok rb (by omega), show (3 : Int) = ((3 : Nat) : Int) from rfl, wadd2 (by omega)]
  simp only [List.length_drop]
  congr 3
  omega
theorem idxA_tw : ∀ (s : Str), idxA s = if (s.takeWhile notEol).length = s.length then -1 else ((s.takeWhile notEol).length : Int)
 | [] => rfl
 | c :: r => by
  have ih := idxA_tw r
  unfold idxA at ih ⊢
  unfold Go.Lib.indexAny
  rw [ih, List.takeWhile_cons]
  have hc : ([13, 10] : Str).contains c = !notEol c := by
   unfold notEol
   simp only [List.contains_cons, List.contains_nil, Bool.or_false, bne]
   cases c == 10 <;> cases c == 13 <;> rfl
  rw [hc]
  have htl := tw_le notEol r
  cases notEol c with
  | false => simp
  | true =>
   simp only [Bool.not_true, Bool.false_eq_true, if_false, if_true, List.length_cons]
   by_cases h : (r.takeWhile notEol).length = r.length
   ·rw [if_pos h, if_pos (show (r.takeWhile notEol).length + 1 = r.length + 1 by omega)]; rfl
   ·rw [if_neg h, if_neg (show ¬ (r.takeWhile notEol).length + 1 = r.length + 1 by omega), if_neg (fun e => by have := beq_iff_eq.1 e; omega)]
    omega
theorem nthI_0 (c : UInt8) (r : Str) : nthI (c :: r) 0 = some c := nthI_nat (c :: r) 0
theorem gap_ok (s : Str) (hs : s.length ≤ 1073741000) (hne : s ≠ []) : to_gap s = some ((gapN s : Nat) : Int) := by
 apply to_gap_run
 unfold to_gap_B
 cases s with
 | nil => exact absurd rfl hne
 | cons c r =>
  rw [nthI_0]
  simp only [bnd, u9, u10, u13, u32, u44, u35]
  have chain : ∀ X : Option Int, cnd (c == 9) (some 1) (cnd (c == 10) (some 1) (cnd (c == 13) (some 1) (cnd (c == 32) (some 1) (cnd (c == 44) (some 1) X)))) = cnd (isGap c) (some 1) X := by
   intro X; unfold isGap
   cases c == 9 <;> cases c == 10 <;> cases c == 13 <;> cases c == 32 <;> cases c == 44 <;> rfl
  rw [chain]
  simp only [gapN]
  cases isGap c with
  | true => rfl
  | false =>
  simp only [cnd, Bool.false_eq_true, if_false]
  rw [show st_HasPrefix (c :: r) [239, 187, 191] = some (bom.isPrefixOf (c :: r)) from HasPrefix_ok _ _]
  cases hp : bom.isPrefixOf (c :: r) with
  | true => rfl
  | false =>
  simp only [Bool.false_eq_true, if_false]
  by_cases h35 : c = 35
  ·subst h35
   rw [if_pos rfl, show ((35 : UInt8) == 35) = true from rfl]
   simp only []
   have hx : st_IndexAny (35 :: r) [13, 10] = some (idxA (35 :: r)) := by
    apply st_IndexAny_run
    unfold tIndexAny
    rw [if_pos ⟨rfl, by omega⟩]
   rw [hx, idxA_tw]
   simp only []
   by_cases h : ((35 :: r : Str).takeWhile notEol).length = (35 :: r : Str).length
   ·rw [if_pos h, h]; rfl
   ·rw [if_neg h, decide_eq_true (by omega)]
  ·rw [if_neg h35, beq_eq_false_iff_ne.2 h35]; rfl
theorem one_ok (s : Str) (hs : s.length ≤ 1073741000) (hne : s ≠ []) : ∃ p, to_one s = some p ∧ (match oneT s with | some (t, k) => p = (t, (k : Int)) | none => p.2 = 0) := by
 suffices h : ∃ p, to_one_B s = some p ∧ (match oneT s with | some (t, k) => p = (t, (k : Int)) | none => p.2 = 0) by
  obtain ⟨p, h1, h2⟩ := h
  exact ⟨p, to_one_run h1, h2⟩
 unfold to_one_B
 cases s with
 | nil => exact absurd rfl hne
 | cons c r =>
  rw [nthI_0]
  simp only [bnd, u34]
  rw [HasPrefix_ok]
  simp only [oneT]
  cases hp : [34, 34, 34].isPrefixOf (c :: r) with
  | true =>
   have hl : 3 ≤ (c :: r).length := (List.isPrefixOf_iff_prefix.1 hp).length_le
   simp only [cnd]
   rw [blocked_ok _ hs hl, show (c :: r).drop 3 = r.drop 2 from rfl]
   cases blk (r.drop 2) [] with
   | none => exact ⟨_, rfl, rfl⟩
   | some p => exact ⟨_, rfl, rfl⟩
  | false =>
   simp only [cnd, Bool.false_eq_true, if_false]
   by_cases h34 : c = 34
   ·subst h34
    rw [if_pos rfl, show ((34 : UInt8) == 34) = true from rfl]
    simp only []
    rw [Quoted_ok _ hs (by simp), show ((34 : UInt8) :: r).drop 1 = r from rfl]
    cases quo r [] [] with
    | none => exact ⟨_, rfl, rfl⟩
    | some p => exact ⟨_, rfl, rfl⟩
   ·rw [if_neg h34, beq_eq_false_iff_ne.2 h34]
    simp only []
    rw [HasPrefix_ok]
    simp only []
    cases hp2 : [46, 46, 46].isPrefixOf (c :: r) with
    | true => exact ⟨_, rfl, rfl⟩
    | false =>
     simp only [Bool.false_eq_true, if_false]
     rw [show st_IndexByte [33, 36, 38, 40, 41, 58, 61, 64, 91, 93, 123, 124, 125] (c.toNat : Int) = some (idxB marks c) from IndexByte_ok _ c]
     simp only []
     rw [show decide (idxB marks c ≥ 0) = isMark c from rfl]
     cases hm : isMark c with
     | true =>
      simp only [if_true]
      have : tslc (c :: r) 0 1 = some [c] := by rw [tslc_ok (by simp; omega)]; rfl
      rw [this]
      exact ⟨_, rfl, rfl⟩
     | false =>
      simp only [Bool.false_eq_true, if_false]
      rw [ls_Letter_ok]
      simp only []
      have hnn := numN_le (c :: r)
      have hk0 := numN_kind0 (c :: r)
      have tk : ∀ k : Nat, k ≤ (c :: r).length → tslc (c :: r) 0 (k : Int) = some ((c :: r).take k) := by
       intro k hk
       rw [tslc_ok (by omega)]; simp
      cases hl : isL c with
      | true =>
       rw [show letter (c.toNat : Int) = true from hl]
       simp only [if_true]
       rw [word_ok _ (by omega) c r rfl hl]
       simp only []
       rw [tk (wordN (c :: r)) (tw_le _ _)]
       exact ⟨_, rfl, rfl⟩
      | false =>
       rw [show letter (c.toNat : Int) = false from hl]
       simp only [Bool.false_eq_true, if_false]
       rw [number_ok _ (by omega)]
       simp only []
       have fin : ∃ p, bnd (tslc (c :: r) 0 ((numN (c :: r)).1 : Int)) (fun y => some (GToken.mk (numN (c :: r)).2 y, ((numN (c :: r)).1 : Int))) = some p ∧ (if (numN (c :: r)).1 = 0 then p.2 = 0 else p = (GToken.mk (numN (c :: r)).2 ((c :: r).take (numN (c :: r)).1), ((numN (c :: r)).1 : Int))) := by
        rw [tk _ hnn]
        refine ⟨_, rfl, ?_⟩
        split
        ·rename_i h0; show (((numN (c :: r)).1 : Nat) : Int) = 0; omega
        ·rfl
       by_cases hend : (numN (c :: r)).1 < (c :: r).length
       ·rw [show decide (((numN (c :: r)).1 : Int) < ((c :: r).length : Int)) = true from ltT hend, nthI_nat]
        have hg : (c :: r)[(numN (c :: r)).1]? = some ((c :: r)[(numN (c :: r)).1]'hend) := List.getElem?_eq_getElem hend
        generalize (c :: r)[(numN (c :: r)).1]'hend = d at hg
        have he : ends (c :: r) (numN (c :: r)).1 = !(isL d || isD d || d == 46) := by unfold ends; rw [hg]
        rw [he, hg]
        simp only [ls_Letter_ok, ls_Digit_ok, u46]
        show ∃ p, (match isL d with | true => _ | false => _) = some p ∧ _
        cases isL d with
        | true =>
         refine ⟨_, rfl, ?_⟩
         simp only [Bool.true_or, Bool.not_true, Bool.false_eq_true, if_false, ite_self]
        | false =>
         show ∃ p, (match isD d with | true => _ | false => _) = some p ∧ _
         cases isD d with
         | true =>
          refine ⟨_, rfl, ?_⟩
          simp only [Bool.or_true, Bool.true_or, Bool.not_true, Bool.false_eq_true, if_false, ite_self]
         | false =>
          cases d == 46 with
          | true =>
           refine ⟨_, rfl, ?_⟩
           simp only [Bool.or_true, Bool.not_true, Bool.false_eq_true, if_false, ite_self]
          | false =>
           obtain ⟨p, h1, h2⟩ := fin
           simp only [bnd] at h1
           refine ⟨p, by dsimp only; exact h1, ?_⟩
           simp only [Bool.or_self, Bool.not_false, if_true]
           split
           ·rename_i t k hh
            split at hh
            ·cases hh
            ·rename_i h0
             rw [if_neg h0] at h2
             cases hh; exact h2
           ·rename_i hh
            split at hh
            ·rename_i h0
             rw [if_pos h0] at h2
             exact h2
            ·cases hh
       ·rw [show decide (((numN (c :: r)).1 : Int) < ((c :: r).length : Int)) = false from ltF (by omega)]
        have he : ends (c :: r) (numN (c :: r)).1 = true := by unfold ends; rw [List.getElem?_eq_none (by omega)]
        rw [he]
        obtain ⟨p, h1, h2⟩ := fin
        simp only [bnd] at h1
        refine ⟨p, by dsimp only; exact h1, ?_⟩
        simp only [if_true]
        split
        ·rename_i t k hh
         split at hh
         ·cases hh
         ·rename_i h0
          rw [if_neg h0] at h2
          cases hh; exact h2
        ·rename_i hh
         split at hh
         ·rename_i h0
          rw [if_pos h0] at h2
          exact h2
         ·cases hh
def readT (s : Str) : List GToken × Int :=
 if 8192 < s.length then ([], 3) else if srcB s then (match lex s with | some l => (l, 0) | none => ([], 2)) else ([], 2)
theorem read_loop (s : Str) (hs : s.length ≤ 1073741000) : ∀ (n i : Nat) (acc : List GToken), s.length - i ≤ n → i ≤ s.length → acc.length ≤ i →
  tloop (to_Read_l1T s) ((i : Int), acc) = some (match lex (s.drop i) with | some l => .inl (acc ++ l) | none => .inr ()) := by
 intro n
 induction n with
 | zero =>
  intro i acc h1 h2 h3
  have : i = s.length := by omega
  subst this
  rw [List.drop_length, lex_nil]
  refine tloop_exit ?_
  simp only [to_Read_l1T]
  rw [show decide (((s.length : Nat) : Int) < (List.length s : Int)) = false from ltF (by omega)]
  simp [cnd]
 | succ n ih =>
  intro i acc h1 h2 h3
  by_cases he : i = s.length
  ·subst he
   rw [List.drop_length, lex_nil]
   refine tloop_exit ?_
   simp only [to_Read_l1T]
   rw [show decide (((s.length : Nat) : Int) < (List.length s : Int)) = false from ltF (by omega)]
   simp [cnd]
  ·have hne : s.drop i ≠ [] := drop_ne (by omega)
   have hb : to_Read_l1T s ((i : Int), acc) = to_Read_l1T s ((i : Int), acc) := rfl
   conv at hb => rhs; unfold to_Read_l1T
   simp only [] at hb
   rw [show decide ((i : Int) < (List.length s : Int)) = true from ltT (by omega), tslc_from s i h2] at hb
   simp only [cnd, bnd] at hb
   rw [gap_ok _ (by rw [List.length_drop]; omega) hne] at hb
   simp only [] at hb
   have hgl := gapN_le (s.drop i)
   rw [List.length_drop] at hgl
   by_cases hg : 0 < gapN (s.drop i)
   ·rw [show decide (((gapN (s.drop i) : Nat) : Int) > 0) = true from decide_eq_true (by omega), wadd2 (by omega)] at hb
    rw [lex_gap hg, List.drop_drop]
    rw [tloop_next hb]
    exact ih _ acc (by omega) (by omega) (by omega)
   ·rw [show decide (((gapN (s.drop i) : Nat) : Int) > 0) = false from decide_eq_false (by omega)] at hb
    simp only [] at hb
    rw [lex_one hne (by omega)]
    obtain ⟨p, hp, hpm⟩ := one_ok (s.drop i) (by rw [List.length_drop]; omega) hne
    rw [hp] at hb
    simp only [] at hb
    cases ho : oneT (s.drop i) with
    | none =>
     rw [ho] at hpm
     simp only [] at hpm
     rw [hpm] at hb
     exact tloop_exit hb
    | some q =>
     obtain ⟨t, k⟩ := q
     rw [ho] at hpm
     simp only [] at hpm
     subst hpm
     have hk := oneT_pos ho
     rw [List.length_drop] at hk
     rw [beq_eq_false_iff_ne.2 (by simp; omega : ((t, (k : Int)).2 ≠ 0))] at hb
     simp only [] at hb
     rw [tapp_ok (by rw [lim_val]; simp; omega), wadd2 (by omega)] at hb
     simp only [] at hb
     rw [tloop_next hb, ih (i + k) (acc ++ [t]) (by omega) (by omega) (by simp; omega)]
     simp only [List.drop_drop]
     cases lex (s.drop (i + k)) with
     | none => rfl
     | some l => simp
theorem Read_ok (s : Str) (hs : s.length ≤ 1073741000) : to_Read s = some (readT s) := by
 apply to_Read_run
 unfold to_Read_B readT
 by_cases h : 8192 < s.length
 ·rw [show decide ((List.length s : Int) > 8192) = true from decide_eq_true (by omega), if_pos h]; rfl
 ·rw [show decide ((List.length s : Int) > 8192) = false from decide_eq_false (by omega), if_neg h]
  simp only [cnd]
  rw [ls_Source_ok s (by omega)]
  simp only [bnd]
  cases srcB s with
  | false => rfl
  | true =>
   simp only [Bool.not_true, if_true]
   have := read_loop s hs s.length 0 [] (by omega) (by omega) (by simp)
   rw [List.drop_zero] at this
   rw [show ((0 : Int), ([] : List GToken)) = (((0 : Nat) : Int), []) from rfl, this]
   cases lex s with
   | none => rfl
   | some l => simp [elim]
def numB (c : UInt8) : Bool := isD c || c == 45 || c == 43 || c == 46 || c == 101 || c == 69
theorem cps_low {c : UInt8} (h : c.toNat < 128) (r : Str) : cps (c :: r) = (cps r).map (c.toNat :: ·) := by
 have e : encC c.toNat = [c] := by unfold encC encN; rw [if_pos h]; simp
 have hd := decR_enc (c := c.toNat) (by unfold okC; omega) r
 rw [e] at hd
 exact cps_some hd
theorem cps_ascii : ∀ (s : Str), (∀ c ∈ s, c.toNat < 128) → cps s = some (s.map fun c : UInt8 => c.toNat)
 | [], _ => rfl
 | c :: r, h => by
  rw [cps_low (h c (by simp)) r, cps_ascii r (fun x hx => h x (by simp [hx]))]; rfl
theorem src_ascii (s : Str) (h : ∀ c ∈ s, 32 ≤ c.toNat ∧ c.toNat < 128) : srcB s = true := by
 unfold srcB
 rw [cps_ascii s (fun c hc => (h c hc).2)]
 simp only [List.all_eq_true, List.mem_map]
 rintro x ⟨c, hc, rfl⟩
 have := h c hc
 unfold signN
 rw [show decide (32 ≤ c.toNat) = true from decide_eq_true this.1, show decide (c.toNat ≤ 65535) = true from decide_eq_true (by omega)]
 simp
def headOk (c : UInt8) : Bool := !isGap c && c != 239 && c != 35 && c != 34 && c != 46 && !isMark c && !isL c
theorem awake3_ok : s3_awake = some true := s3_awake_run 1000 (by kernel_rfl)
theorem lex_commas : ∀ n : Nat, lex (List.replicate n 44) = some []
 | 0 => rfl
 | n + 1 => by
  have hg : gapN (List.replicate (n + 1) (44 : UInt8)) = 1 := by
   have h44 : isGap 44 = true := by decide
   simp only [List.replicate_succ, gapN, h44, if_true]
  rw [lex_gap (by omega), hg, List.replicate_succ, List.drop_succ_cons, List.drop_zero]
  exact lex_commas n
theorem read_commas (n : Nat) : readT (List.replicate n 44) = if 8192 < n then ([], 3) else ([], 0) := by
 have hs : srcB (List.replicate n 44) = true := src_ascii _ (fun c hc => by rw [List.eq_of_mem_replicate hc]; decide)
 unfold readT
 rw [hs, lex_commas, List.length_replicate]
 rfl
theorem commas_loop (N : Nat) (hN : N < 1073741824) : tloop (s3_TokenRoom_l1T (List.replicate N 0)) (0, List.replicate N 0) = some (List.replicate N 44) := by
 obtain ⟨r, hr, hq⟩ := tloop_inv (b := s3_TokenRoom_l1T (List.replicate N 0))
  (I := fun s => ∃ i : Nat, s.1 = (i : Int) ∧ i ≤ N ∧ s.2 = List.replicate i 44 ++ List.replicate (N - i) 0)
  (m := fun s => N - s.1.toNat) (Q := fun r => r = List.replicate N 44)
  (by
   rintro ⟨i', b⟩ ⟨i, h1, h2, h3⟩
   simp only at h1 h3
   subst h1 h3
   by_cases hi : i < N
   ·right
    have e1 : decide ((i : Int) < (((List.replicate N (0 : Int)).length : Nat) : Int)) = true := by rw [List.length_replicate]; simp; omega
    have e3 : IntKind.wrap .i64 ((i : Int) + 1) = ((i + 1 : Nat) : Int) := wadd (by omega)
    have e2 : tixR (List.replicate N (0 : Int)).length (i : Int) = some i := by rw [tixR_ok (by rw [List.length_replicate]; omega)]; simp
    have hd : List.replicate (N - i) (0 : Int) = 0 :: List.replicate (N - (i + 1)) 0 := by
     rw [show N - i = (N - (i + 1)) + 1 by omega, List.replicate_succ]
    have hput : tput (List.replicate i (44 : Int) ++ List.replicate (N - i) 0) i (fun _ : Int => 44) = some (List.replicate (i + 1) 44 ++ List.replicate (N - (i + 1)) 0) := by
     rw [tput_ok (by simp; omega), hd]
     have : ∀ (p : List Int) (a : Int) (u : List Int), (p ++ a :: u).modify p.length (fun _ => 44) = p ++ 44 :: u := by
      intro p; induction p with
      | nil => intro a u; simp
      | cons x p ih => intro a u; simp [ih]
     have h := this (List.replicate i (44 : Int)) 0 (List.replicate (N - (i + 1)) 0)
     rw [List.length_replicate] at h
     rw [h, List.replicate_succ', List.append_assoc]; rfl
    refine ⟨(((i + 1 : Nat) : Int), List.replicate (i + 1) 44 ++ List.replicate (N - (i + 1)) 0), ?_, ⟨i + 1, rfl, by omega, rfl⟩, ?_⟩
    ·simp only [s3_TokenRoom_l1T, e1, cnd, e2, bnd, hput, e3]
    ·simp only [Int.toNat_natCast]; omega
   ·left
    have hN' : i = N := by omega
    subst hN'
    have e1 : decide ((i : Int) < (((List.replicate i (0 : Int)).length : Nat) : Int)) = false := by rw [List.length_replicate]; simp
    refine ⟨_, by simp only [s3_TokenRoom_l1T, e1, cnd]; rfl, ?_⟩
    simp)
  (0, List.replicate N 0) ⟨0, rfl, Nat.zero_le _, by simp⟩
 rw [hr, hq]
theorem TokenRoom_ok (n : Int) : s3_TokenRoom n = some true := by
 apply s3_TokenRoom_run
 unfold s3_TokenRoom_B
 by_cases h0 : n < 0
 ·rw [decide_eq_true h0, awake3_ok]; rfl
 ·rw [decide_eq_false h0]
  by_cases h4 : 4 < n
  ·rw [show decide (n > 4) = true from decide_eq_true h4, awake3_ok]; rfl
  ·rw [show decide (n > 4) = false from decide_eq_false h4]
   obtain ⟨N, hN, hN1, hN2⟩ : ∃ N : Nat, IntKind.wrap .i64 (8190 + n) = (N : Int) ∧ 8190 ≤ N ∧ (N : Int) = 8190 + n := ⟨(8190 + n).toNat, by rw [wi (by omega)]; omega, by omega, by omega⟩
   rw [hN, tmkv_ok (by rw [lim_val]; omega), show ((N : Int)).toNat = N from Int.toNat_natCast N]
   have hb : bytesT (List.take N (List.replicate N 44)) = List.replicate N 44 := by
    unfold bytesT
    rw [List.take_of_length_le (by rw [List.length_replicate]; omega), List.map_replicate]; rfl
   simp only [cnd, bnd, commas_loop N (by omega), List.length_replicate, show Nat.ble N N = true by simp, hb, Read_ok (List.replicate N 44) (by rw [List.length_replicate]; omega), read_commas, awake3_ok]
   by_cases h2 : n > 2
   ·rw [decide_eq_true h2, if_pos (by omega)]; rfl
   ·rw [decide_eq_false h2, if_neg (by omega)]; rfl
open Go.ChangeShapes Go.WideShapes Go.ChangeAt Go.RowKit
theorem mixed : Tryd.prog.follows .mixedOrders = true := by kernel_rfl
theorem names : (Tryd.prog.funcs.toList.all fun fn => !fn.body.isSome || !(fn.name == "runtime.NumGoroutine")) = true := by kernel_rfl
theorem laid : laidOutB Tryd.prog = true := by kernel_rfl
theorem pok : POk Tryd.prog := by
 refine ⟨mixed, fun f fn hf hb => ?_⟩
 have hm : fn ∈ Tryd.prog.funcs.toList := by
  have := Array.mem_of_getElem? hf
  simpa using this
 have := List.all_eq_true.1 names fn hm
 rw [hb] at this
 simpa using this
theorem blOk {H : Type} : BlOk (H := H) Rows.uptoBulk Rows.uptoBulkAll := by
 refine ⟨fun l => ?_, fun s => ?_, ?_, fun es sp => ?_, fun ps => ?_, fun d r => ?_⟩
 ·cases l <;> simp [Rows.uptoBulk]
 ·simp [Rows.uptoBulk]
 ·simp [Rows.uptoBulk]
 ·simp only [Rows.uptoBulk]; omega
 ·simp only [Rows.uptoBulk]; omega
 ·simp [Rows.uptoBulkAll]
theorem own : ownKnob Tryd.prog.godebug = none := by kernel_rfl
theorem firstE : (Rows.laid_unicode_utf8_first : DataW Unit) = Go.Lib.firstData := by kernel_rfl
theorem acceptE : (Rows.laid_unicode_utf8_acceptRanges : DataW Unit) = Go.Lib.acceptData := by kernel_rfl
def laidList : List (String × DataW Unit) := Rows.tokenRoomUptoRow.laid
theorem tabsOf {W : World} (h : laidMetH Tryd.prog laidList W) : Go.Lib.Utf8Tabs 0 1 W := by
 have h3 := Go.Lib.laidMet.reads h (.tail _ (.head _))
 have h4 := Go.Lib.laidMet.reads h (.head _)
 rw [firstE] at h3
 rw [acceptE] at h4
 exact utf8Tabs_of_readsT (ρ := Tryd.lays260_ren) (U8Types.of260 Tryd.lays260) ⟨by kernel_rfl, by kernel_rfl, by kernel_rfl, by kernel_rfl, by kernel_rfl, by kernel_rfl, by kernel_rfl⟩ h3 h4
theorem gmOf {W : World} (h : laidMetH Tryd.prog laidList W) : ∀ b i v, GM b i = some v → memW W b i = some v := by
 obtain ⟨t1, t2⟩ := tabsOf h
 intro b i v hv
 unfold GM at hv
 split at hv
 ·rename_i hb; subst hb
  split at hv
  ·rename_i hi; cases hv; exact (cell_mem (t1 i hi)).2
  ·simp at hv
 ·split at hv
  ·rename_i hb; subst hb
   split at hv
   ·rename_i hi
    cases hv
    obtain ⟨e1, e2⟩ := t2 (i / 2) (by omega)
    split
    ·rename_i he
     rw [show 2 * (i / 2) = i by omega] at e1
     exact (cell_mem e1).2
    ·rename_i he
     rw [show 2 * (i / 2) + 1 = i by omega] at e2
     exact (cell_mem e2).2
   ·simp at hv
  ·simp at hv
noncomputable def laidWorld (os : Os) : World :=
 let w0 := World.holding Tryd.prog os ⟨#[], #[], []⟩
 let put (h : Array Obj) (g : Nat) (cs : Array Value) : Array Obj := h.modify g fun
  | .cells _ t frozen => .cells cs t frozen
  | o => o
 let h1 := put w0.heap 0 (Go.Lib.firstTab.map fun z => Value.int .u8 z).toArray
 let h2 := put h1 1 ((List.range 16).flatMap fun i => [Value.int .u8 (Go.Lib.accLo i), Value.int .u8 (Go.Lib.accHi i)]).toArray
 { w0 with heap := h2 }
namespace tokenRoom
def fs : Ty := (.fcons (.int .i64) .fnil)
theorem lawF : ∀ x : fs.den RS, good RS fs x → bulkL RS fs x ≤ 1048576 → OL Tryd.prog MT XT 5 (encL RS fs x) [] = some (.bool true, []) := by
 rintro ⟨x0, _⟩ g b
 have b' : bk1 x0 + (0) ≤ 1048576 := b
 obtain ⟨g0, _⟩ := g
 have g0' : (gdI .i64) x0 := g0
 have e : encL RS fs (x0, ()) = [(PV.int .i64) x0] := rfl
 rw [e]
 change O 5 _ _ = _
 have h := s3_TokenRoom_spec (TokenRoom_ok x0)
 simpa only [tys, s3_TokenRoomE] using h
set_option maxRecDepth 100000 in
theorem contract (H : Type) (enc : TypeId × Value → H) (W : World) (base : Nat) (args : Array Value) (ds gs : List (DataW H)) (before : List MemPlace)
  (hval : ∀ (j : Nat) t v, Tryd.f5.params[j]? = some t → args[j]? = some v → Value.okWide Tryd.prog W .any base t v)
  (hW : DataW.Whole enc Tryd.prog Tryd.f5.params.toList Rows.tokenRoomSpec.vars false W args.toList ds gs before) (hk : Rows.uptoSmall H (ds ++ gs) = true) (hL : laidMetH Tryd.prog laidList W) :
  Calls Tryd.prog 5 args W fun e W' => ∃ v, e = .returned v ∧ Rows.tokenRoomSpec.post enc Tryd.prog Tryd.f5 false true false false W args v W' := by
 have hg : gs = [] := by
  obtain ⟨p, q, hA, hV, _⟩ := hW
  exact (trodVars_none hV).1
 have hb : Rows.uptoBulkAll ds ≤ 1048576 := by
  have := of_decide_eq_true hk
  simpa [hg] using this
 have hlen : ds.length = 1 := by
  obtain ⟨p, q, hA0, hV, _⟩ := hW
  have hA : DataW.TrodAll enc Tryd.prog W 0 (fun _ => true) true Tryd.f5.params.toList args.toList ds p := hA0
  rw [Tryd.params5] at hA
  obtain ⟨v0, vs0, d0, ds0, p0, q0, h0, rfl, rfl, ht0, r0⟩ := trodAll_cons hA
  obtain ⟨rfl, rfl, rfl⟩ := trodAll_nil r0
  rfl
 refine contract_glob (G := GM) pok xok laid blOk Tryd.func5 rfl (n := 9) (ρ := RS) (τ := TS) (fs := fs) (tb := 4) (by kernel_rfl) (by rw [show Tryd.f5.resultTypes = #[4] from rfl]) Tryd.underlying4 rfl (gmOf hL) (rok enc W blOk) ?_ hval hW hb lawF
 subst hg
 match ds, hlen with
 | [d0], _ => exact ⟨rfl, rfl, rfl⟩
theorem laid_met (os : Os) : laidMet Tryd.prog Rows.tokenRoomUptoRow.laid ((laidWorld os).forCall (fun _ _ => 0) ⟨#[], #[.int .i64 0], []⟩).memory :=
 laidMet_of_run' 8 (by kernel_rfl) (by kernel_rfl)
theorem reads (os : Os) {H : Type} (enc : TypeId × Value → H) : ∃ places, DataW.whole enc Tryd.prog ((laidWorld os).forCall (fun _ _ => 0) ⟨#[], #[.int .i64 0], []⟩).memory Tryd.f5.params.toList Rows.tokenRoomSpec.vars false (#[.int .i64 0] : Array Value).toList 8 = some ([.lit (.int .i64 0)], [], places) :=
 ⟨[], by kernel_rfl⟩
set_option maxRecDepth 100000 in
theorem lifted (os : Os) (started : os.Started) (H : Type) (enc : TypeId × Value → H) (F : Stop.Interp) :
  ReturnsInHanded {} Tryd.checked os 5 .any ((Rows.OpenSpec.upto Rows.tokenRoomSpec).preRow enc Tryd.prog Tryd.f5 Rows.tokenRoomUptoRow.domain false Rows.tokenRoomUptoRow.laid) (((Rows.OpenSpec.upto Rows.tokenRoomSpec).at F).post enc Tryd.prog Tryd.f5 false true false false) := by
 obtain ⟨places, hx⟩ := reads os enc
 refine returnsInHanded_of_row (C := Tryd.checked) (s := Rows.OpenSpec.upto Rows.tokenRoomSpec) own started (by kernel_rfl) Tryd.func5
  (witness_row_at (enc := enc) (C := Tryd.checked) false (laidWorld os) #[.int .i64 0] rfl (by kernel_rfl) (by kernel_rfl) (by kernel_rfl)
   (OpenSpec.preRow_of_cond 8 hx (by kernel_rfl) (fun k hk => by cases hk; kernel_rfl) (by kernel_rfl) (laid_met os))) ?_
 intro W base args ds gs before hval hW _ hcond _ hL _ _
 exact contract H enc W base args ds gs before hval hW (hcond _ rfl) hL
theorem over : Rows.tokenRoomUptoRow.holds Tryd.pinned (Rows.OpenSpec.upto Rows.tokenRoomSpec) :=
 OpenClaim.holds_of_cond 5 Tryd.f5 rfl rfl rfl rfl rfl rfl rfl ⟨rfl, rfl, rfl, rfl, rfl⟩ rfl rfl rfl rfl rfl (by kernel_rfl) Tryd.func5 (by kernel_rfl)
  (of_decide_eq_true (by kernel_rfl)) (by unfold Func.isWrapper; first | (rw [if_pos (by decide +kernel)]; kernel_rfl) | (rw [if_neg (by decide +kernel)]; exact ⟨rfl, rfl⟩))
  (fun os started H enc _ F => by rw [OpenClaim.pre_eq_preRow]; exact lifted os started H enc F)
theorem plain (f : FuncId) (fn : Func) (hf : Tryd.pinned.checked.prog.funcNamed Rows.tokenRoomUptoRow.func = some f) (hfn : Tryd.pinned.checked.prog.funcs[f]? = some fn) :
  false = Tryd.pinned.checked.prog.looks [] ∧ ∀ (j : Nat) t, fn.params[j]? = some t → Tryd.pinned.checked.prog.wantsStandIn t = false := by
 obtain rfl : f = 5 := Option.some.inj ((show Tryd.prog.funcNamed Rows.tokenRoomUptoRow.func = some 5 by kernel_rfl).symm.trans hf) |>.symm
 obtain rfl : fn = Tryd.f5 := (Option.some.inj (Tryd.func5.symm.trans hfn)).symm
 refine ⟨by kernel_rfl, fun j t ht => ?_⟩
 have all : (Tryd.f5.params.toList.all fun t => !Tryd.prog.wantsStandIn t) = true := by kernel_rfl
 have hm : t ∈ Tryd.f5.params.toList := by
  have := Array.mem_of_getElem? ht
  simpa using this
 have := List.all_eq_true.1 all t hm
 exact (show Tryd.prog.wantsStandIn t = false by simpa using this)
theorem proved : Rows.TokenRoomUptoCardSaid :=
 Claim7.holds_tied_plain_at .later [] _ _ _ _ over (fun _ h => by cases h) (by kernel_rfl) (fun _ h => by cases h) tokenRoomUpto_row_tie rfl ⟨rfl, rfl⟩ (by kernel_rfl) rfl plain (by kernel_rfl)
end tokenRoom
end Go.Proofs.YtafndpggajdmiaaDoor
