/-
  BlockSays: of any raw text: its lines, how far they stand in, and what it says, are the page's. Conditions: none beside the row's own (bulk at most 1048576).
-/
import Derived.Test.YtlaomadhhdcflaaGb
import Derived.Test.YtlaomadhhdcflaaEd
import Derived.KernelRfl
import Derived.Test.YtlaomadhhdcflaaGa
import Derived.Test.YtlaomadhhdcflaaRows
import Derived.WalkKit
import Derived.ProofKit
import Derived.OpenShut
import Derived.JoinedCond
set_option linter.unusedVariables false
set_option linter.unusedSimpArgs false
/-
  Names: the program's and the reference's are alike.
-/
set_option linter.unusedVariables false
set_option linter.unusedSimpArgs false
open Go Go.Ev
namespace Go.Proofs.Ytlaomadhhdcflaa

def letter (c : Int) : Bool := (decide (97 ≤ c) && decide (c ≤ 122)) || ((decide (65 ≤ c) && decide (c ≤ 90)) || c == 95)
def digit (c : Int) : Bool := decide (48 ≤ c) && decide (c ≤ 57)
/-- All of these may stand behind a name's first sign. -/
def inName (c : UInt8) : Bool := letter c.toNat || digit c.toNat
def isName : Str → Bool
  | [] => false
  | c :: s => letter c.toNat && s.all inName
end Go.Proofs.Ytlaomadhhdcflaa

/-
  Layer 2, plain: lines, indents, what a raw text says.
-/
set_option linter.unusedVariables false
set_option linter.unusedSimpArgs false
open Go Go.Ev
namespace Go.Proofs.Ytlaomadhhdcflaa

theorem dw_head {α : Type} {p : α → Bool} {y : α} {r : List α} : ∀ {l : List α}, l.dropWhile p = y :: r → p y = false
  | [], h => by simp at h
  | x :: l, h => by
    rw [List.dropWhile_cons] at h
    split at h
    · exact dw_head h
    · rename_i hx; cases h; simpa using hx
theorem dw_all {α : Type} {p : α → Bool} : ∀ {l : List α}, (∀ x ∈ l, p x = true) → l.dropWhile p = []
  | [], _ => rfl
  | x :: l, h => by rw [List.dropWhile_cons, if_pos (h x (by simp))]; exact dw_all fun y hy => h y (by simp [hy])
theorem tw_all {α : Type} {p : α → Bool} : ∀ {l : List α}, (∀ x ∈ l, p x = true) → l.takeWhile p = l
  | [], _ => rfl
  | x :: l, h => by rw [List.takeWhile_cons, if_pos (h x (by simp)), tw_all fun y hy => h y (by simp [hy])]
/-! lines -/
/-- The lines of a text, behind the front of the first one. -/
def lnsA : Str → Str → List Str
  | a, [] => [a]
  | a, c :: r =>
    if c = 10 then a :: lnsA [] r
    else if c = 13 then (match r with
      | d :: r' => if d = 10 then a :: lnsA [] r' else a :: lnsA [] (d :: r')
      | [] => a :: lnsA [] [])
    else lnsA (a ++ [c]) r
termination_by _ s => s.length
def lns (s : Str) : List Str := lnsA [] s
theorem lnsA_nil (a : Str) : lnsA a [] = [a] := by unfold lnsA; rfl
theorem lnsA_10 (a r : Str) : lnsA a (10 :: r) = a :: lnsA [] r := by rw [lnsA.eq_def]; simp
theorem lnsA_crlf (a r : Str) : lnsA a (13 :: 10 :: r) = a :: lnsA [] r := by rw [lnsA.eq_def]; simp
theorem lnsA_cr (a r : Str) (h : r.head? ≠ some 10) : lnsA a (13 :: r) = a :: lnsA [] r := by
  cases r with
  | nil => rw [lnsA.eq_def]; simp
  | cons d r' =>
    have : d ≠ 10 := by simpa using h
    rw [lnsA.eq_def]; simp [this]
theorem lnsA_other (a r : Str) {c : UInt8} (h1 : c ≠ 10) (h2 : c ≠ 13) : lnsA a (c :: r) = lnsA (a ++ [c]) r := by rw [lnsA.eq_def]; simp [h1, h2]
/-- So much room a list of texts takes, with an end behind each. -/
def wt (l : List Str) : Nat := sumL (fun x => x.length + 1) l
theorem wt_nil : wt [] = 0 := rfl
theorem wt_cons (x : Str) (l : List Str) : wt (x :: l) = x.length + 1 + wt l := rfl
theorem wt_len : ∀ (l : List Str), l.length ≤ wt l
  | [] => Nat.le_refl _
  | x :: l => by have := wt_len l; rw [wt_cons, List.length_cons]; omega
theorem wt_mem {x : Str} : ∀ {l : List Str}, x ∈ l → x.length + 1 ≤ wt l
  | y :: l, h => by
    rw [wt_cons]
    rcases List.mem_cons.1 h with rfl | h
    · omega
    · have := wt_mem h; omega
theorem wt_app : ∀ (l m : List Str), wt (l ++ m) = wt l + wt m
  | [], m => by simp [wt_nil]
  | x :: l, m => by rw [List.cons_append, wt_cons, wt_cons, wt_app l m]; omega
theorem wt_lnsA : ∀ (n : Nat) (a s : Str), s.length ≤ n → wt (lnsA a s) ≤ a.length + s.length + 1 := by
  intro n
  induction n with
  | zero =>
    intro a s h
    have : s = [] := List.length_eq_zero_iff.1 (by omega)
    subst this; rw [lnsA_nil, wt_cons, wt_nil]; simp
  | succ n ih =>
    intro a s h
    cases s with
    | nil => rw [lnsA_nil, wt_cons, wt_nil]; simp
    | cons c r =>
      simp only [List.length_cons] at h ⊢
      by_cases h10 : c = 10
      · subst h10
        rw [lnsA_10, wt_cons]
        have := ih [] r (by omega); simp only [List.length_nil] at this; omega
      by_cases h13 : c = 13
      · subst h13
        by_cases hd : r.head? = some 10
        · cases r with
          | nil => simp at hd
          | cons d r' =>
            have : d = 10 := by simpa using hd
            subst this
            simp only [List.length_cons] at h ⊢
            rw [lnsA_crlf, wt_cons]
            have := ih [] r' (by omega); simp only [List.length_nil] at this; omega
        · rw [lnsA_cr a r hd, wt_cons]
          have := ih [] r (by omega); simp only [List.length_nil] at this; omega
      · rw [lnsA_other a r h10 h13]
        have := ih (a ++ [c]) r (by omega)
        simp only [List.length_append, List.length_singleton] at this; omega
theorem wt_lns (s : Str) : wt (lns s) ≤ s.length + 1 := by
  have := wt_lnsA s.length [] s (Nat.le_refl _); simp only [List.length_nil] at this; unfold lns; omega
/-- No end of a line. -/
def noEol (s : Str) : Prop := ∀ c ∈ s, c ≠ 10 ∧ c ≠ 13
theorem lnsA_no : ∀ (a x : Str), noEol x → lnsA a x = [a ++ x]
  | a, [], _ => by rw [lnsA_nil]; simp
  | a, c :: x, h => by
    have hc := h c (by simp)
    rw [lnsA_other a x hc.1 hc.2, lnsA_no (a ++ [c]) x (fun d hd => h d (by simp [hd]))]
    simp
theorem lnsA_front : ∀ (a x r : Str), noEol x → lnsA a (x ++ r) = lnsA (a ++ x) r
  | a, [], r, _ => by simp
  | a, c :: x, r, h => by
    have hc := h c (by simp)
    rw [List.cons_append, lnsA_other a (x ++ r) hc.1 hc.2, lnsA_front (a ++ [c]) x r (fun d hd => h d (by simp [hd]))]
    simp
/-- The first line, its end, the others. -/
theorem lns_step (s : Str) : ∃ x rest, s = x ++ rest ∧ noEol x ∧
    ((rest = [] ∧ lns s = [x]) ∨ ∃ r, lns s = x :: lns r ∧ (rest = 10 :: r ∨ rest = 13 :: 10 :: r ∨ (rest = 13 :: r ∧ r.head? ≠ some 10))) := by
  refine ⟨s.takeWhile (fun c => c != 10 && c != 13), s.dropWhile (fun c => c != 10 && c != 13), (List.takeWhile_append_dropWhile).symm, ?_, ?_⟩
  · intro c hc
    have := List.all_eq_true.1 (List.all_takeWhile (l := s) (p := fun c => c != 10 && c != 13)) c hc
    simpa using this
  · have hno : noEol (s.takeWhile (fun c => c != 10 && c != 13)) := by
      intro c hc
      have := List.all_eq_true.1 (List.all_takeWhile (l := s) (p := fun c => c != 10 && c != 13)) c hc
      simpa using this
    have hs : lns s = lnsA (s.takeWhile (fun c => c != 10 && c != 13)) (s.dropWhile (fun c => c != 10 && c != 13)) := by
      conv => lhs; rw [← List.takeWhile_append_dropWhile (l := s) (p := fun c => c != 10 && c != 13)]
      unfold lns; rw [lnsA_front _ _ _ hno, List.nil_append]
    rw [hs]
    cases hd : s.dropWhile (fun c => c != 10 && c != 13) with
    | nil => left; exact ⟨rfl, lnsA_nil _⟩
    | cons c r =>
      right
      have hc : c = 10 ∨ c = 13 := by
        have := dw_head hd
        by_cases e : c = 10
        · exact .inl e
        · right; simpa [e] using this
      rcases hc with rfl | rfl
      · exact ⟨r, lnsA_10 _ _, .inl rfl⟩
      · by_cases hh : r.head? = some 10
        · cases r with
          | nil => simp at hh
          | cons d r' =>
            have : d = 10 := by simpa using hh
            subst this
            exact ⟨r', lnsA_crlf _ _, .inr (.inl rfl)⟩
        · exact ⟨r, lnsA_cr _ _ hh, .inr (.inr ⟨rfl, hh⟩)⟩
theorem lns_ne (s : Str) : lns s ≠ [] := by
  obtain ⟨x, rest, _, _, h⟩ := lns_step s
  rcases h with ⟨_, h⟩ | ⟨r, h, _⟩ <;> rw [h] <;> simp
theorem lns_noEol : ∀ (n : Nat) (s : Str), s.length ≤ n → ∀ x ∈ lns s, noEol x := by
  intro n
  induction n with
  | zero =>
    intro s h x hx
    have : s = [] := List.length_eq_zero_iff.1 (by omega)
    subst this
    unfold lns at hx; rw [lnsA_nil] at hx; simp at hx; subst hx; intro c hc; simp at hc
  | succ n ih =>
    intro s h x hx
    obtain ⟨y, rest, hs, hy, h2⟩ := lns_step s
    rcases h2 with ⟨_, h2⟩ | ⟨r, h2, hr⟩
    · rw [h2] at hx; simp at hx; subst hx; exact hy
    · rw [h2] at hx
      rcases List.mem_cons.1 hx with rfl | hx
      · exact hy
      · refine ih r ?_ x hx
        have hl : s.length = y.length + rest.length := by rw [hs]; simp
        rcases hr with rfl | rfl | ⟨rfl, _⟩ <;> simp only [List.length_cons] at hl <;> omega
/-! blanks -/
def bl (c : UInt8) : Bool := c == 9 || c == 32
def bare (s : Str) : Bool := s.all bl
def leadN (s : Str) : Nat := (s.takeWhile bl).length
theorem leadN_le (s : Str) : leadN s ≤ s.length := (List.takeWhile_sublist bl).length_le
theorem leadN_bare {s : Str} (h : bare s = true) : leadN s = s.length := by
  unfold leadN
  rw [tw_all (fun x hx => List.all_eq_true.1 h x hx)]
/-- The least indent. -/
def leastI (m : Int) (s : Str) : Int := if bare s then m else if m < 0 then (leadN s : Int) else if (leadN s : Int) < m then (leadN s : Int) else m
def indent (l : List Str) : Int := (l.drop 1).foldl leastI (-1)
theorem leastI_ge (m : Int) (s : Str) (h : -1 ≤ m) : -1 ≤ leastI m s := by unfold leastI; split <;> (try split) <;> (try split) <;> omega
theorem least_ge : ∀ (l : List Str) (m : Int), -1 ≤ m → -1 ≤ l.foldl leastI m
  | [], m, h => h
  | s :: l, m, h => least_ge l _ (leastI_ge m s h)
theorem indent_ge (l : List Str) : -1 ≤ indent l := least_ge _ _ (by omega)
theorem least_le : ∀ (l : List Str) (m : Int) (b : Nat), m ≤ b → (∀ s ∈ l, s.length ≤ b) → l.foldl leastI m ≤ b
  | [], m, b, h, _ => h
  | s :: l, m, b, h, hl => by
    refine least_le l _ b ?_ (fun x hx => hl x (by simp [hx]))
    have h1 := hl s (by simp)
    have h2 := leadN_le s
    unfold leastI; split <;> (try split) <;> (try split) <;> omega
/-! what it says -/
def shiftL (n : Nat) : List Str → List Str
  | [] => []
  | x :: r => x :: r.map (·.drop n)
theorem shift_len (n : Nat) (l : List Str) : (shiftL n l).length = l.length := by cases l <;> simp [shiftL]
theorem wt_drop (n : Nat) : ∀ (l : List Str), wt (l.map (·.drop n)) ≤ wt l
  | [] => Nat.le_refl _
  | x :: l => by have := wt_drop n l; rw [List.map_cons, wt_cons, wt_cons, List.length_drop]; omega
theorem wt_shift (n : Nat) (l : List Str) : wt (shiftL n l) ≤ wt l := by
  cases l with
  | nil => exact Nat.le_refl _
  | cons x r => have := wt_drop n r; rw [shiftL, wt_cons, wt_cons]; omega
def trimF (l : List Str) : List Str := l.dropWhile bare
def trimB (l : List Str) : List Str := (l.reverse.dropWhile bare).reverse
theorem trimB_nil : trimB [] = [] := rfl
theorem trimB_snoc (l : List Str) (x : Str) : trimB (l ++ [x]) = if bare x then trimB l else l ++ [x] := by
  unfold trimB
  rw [List.reverse_append, List.reverse_singleton, List.singleton_append, List.dropWhile_cons]
  split
  · rfl
  · rw [List.reverse_cons, List.reverse_reverse]
theorem trimB_pre : ∀ (n : Nat) (l : List Str), l.length ≤ n → ∃ r, l = trimB l ++ r := by
  intro n
  induction n with
  | zero => intro l h; have : l = [] := List.length_eq_zero_iff.1 (by omega); subst this; exact ⟨[], rfl⟩
  | succ n ih =>
    intro l h
    rcases List.eq_nil_or_concat l with rfl | ⟨m, x, rfl⟩
    · exact ⟨[], rfl⟩
    · rw [List.concat_eq_append] at h ⊢
      rw [trimB_snoc]
      split
      · obtain ⟨r, hr⟩ := ih m (by simp at h; omega)
        exact ⟨r ++ [x], by rw [← List.append_assoc, ← hr]⟩
      · exact ⟨[], by simp⟩
theorem trimB_last {l : List Str} {x : Str} (h : (trimB l).getLast? = some x) : bare x = false := by
  unfold trimB at h
  rw [List.getLast?_reverse] at h
  cases hd : l.reverse.dropWhile bare with
  | nil => rw [hd] at h; simp at h
  | cons y r =>
    rw [hd] at h
    simp only [List.head?_cons, Option.some.injEq] at h
    subst h
    exact dw_head hd
theorem trimF_head {l : List Str} {x : Str} (h : (trimF l).head? = some x) : bare x = false := by
  unfold trimF at h
  cases hd : l.dropWhile bare with
  | nil => rw [hd] at h; simp at h
  | cons y r =>
    rw [hd] at h
    simp only [List.head?_cons, Option.some.injEq] at h
    subst h
    exact dw_head hd
def says (l : List Str) : List Str := trimB (trimF (shiftL (indent l).toNat l))
def value (raw : Str) : Str := joinS (says (lns raw)) [10]
theorem joinS_nil (sep : Str) : joinS [] sep = [] := by simp [joinS, List.intercalate]
theorem joinS_one (x sep : Str) : joinS [x] sep = x := by simp [joinS, List.intercalate]
theorem joinS_cons2 (x y : Str) (l : List Str) (sep : Str) : joinS (x :: y :: l) sep = x ++ (sep ++ joinS (y :: l) sep) := by
  simp [joinS, List.intercalate, List.intersperse]
theorem joinS_snoc (sep x : Str) : ∀ (l : List Str), l ≠ [] → joinS (l ++ [x]) sep = joinS l sep ++ (sep ++ x)
  | [], h => absurd rfl h
  | [y], _ => by rw [List.singleton_append, joinS_cons2, joinS_one, joinS_one]
  | y :: z :: l, _ => by
    have := joinS_snoc sep x (z :: l) (by simp)
    rw [List.cons_append, List.cons_append, joinS_cons2, ← List.cons_append, this, joinS_cons2]
    simp
theorem joinS_len : ∀ (l : List Str), (joinS l [10]).length + 1 ≤ wt l + 1
  | [] => by rw [joinS_nil]; simp
  | [x] => by rw [joinS_one, wt_cons]; omega
  | x :: y :: l => by
    have := joinS_len (y :: l)
    rw [joinS_cons2, wt_cons]
    simp only [List.length_append, List.length_singleton]; omega
theorem joinS_len1 : ∀ (l : List Str), l ≠ [] → (joinS l [10]).length + 1 ≤ wt l
  | [], h => absurd rfl h
  | [x], _ => by rw [joinS_one, wt_cons, wt_nil]; omega
  | x :: y :: l, _ => by
    have := joinS_len1 (y :: l) (by simp)
    rw [joinS_cons2, wt_cons]
    simp only [List.length_append, List.length_singleton]; omega
theorem wt_trimF : ∀ (l : List Str), wt (trimF l) ≤ wt l
  | [] => Nat.le_refl _
  | x :: l => by
    have h := wt_trimF l
    unfold trimF at h ⊢
    rw [List.dropWhile_cons]
    split
    · rw [wt_cons]; omega
    · exact Nat.le_refl _
theorem wt_trimB (l : List Str) : wt (trimB l) ≤ wt l := by
  obtain ⟨r, hr⟩ := trimB_pre l.length l (Nat.le_refl _)
  conv => rhs; rw [hr, wt_app]
  omega
theorem wt_says (l : List Str) : wt (says l) ≤ wt l := Nat.le_trans (wt_trimB _) (Nat.le_trans (wt_trimF _) (wt_shift _ _))
theorem value_len (raw : Str) : (value raw).length ≤ raw.length := by
  unfold value
  have h1 := wt_says (lns raw)
  have h2 := wt_lns raw
  by_cases h : says (lns raw) = []
  · rw [h, joinS_nil]; simp
  · have := joinS_len1 _ h; omega
/-- Lines that have no ends, joined, are these lines. -/
theorem lns_join : ∀ (l : List Str), l ≠ [] → (∀ x ∈ l, noEol x) → lns (joinS l [10]) = l
  | [], h, _ => absurd rfl h
  | [x], _, h => by rw [joinS_one]; unfold lns; rw [lnsA_no _ _ (h x (by simp))]; simp
  | x :: y :: l, _, h => by
    rw [joinS_cons2]
    unfold lns
    rw [lnsA_front [] x _ (h x (by simp)), List.nil_append, List.singleton_append, lnsA_10]
    have := lns_join (y :: l) (by simp) (fun z hz => h z (by simp [hz]))
    unfold lns at this
    rw [this]
theorem says_mem {l : List Str} {x : Str} (h : x ∈ says l) : ∃ y ∈ l, ∃ n, x = y.drop n := by
  have h1 : x ∈ trimF (shiftL (indent l).toNat l) := by
    obtain ⟨r, hr⟩ := trimB_pre _ (trimF (shiftL (indent l).toNat l)) (Nat.le_refl _)
    rw [hr]; exact List.mem_append.2 (.inl h)
  have h2 : x ∈ shiftL (indent l).toNat l := (List.dropWhile_sublist bare).subset h1
  cases l with
  | nil => simp [shiftL] at h2
  | cons y r =>
    simp only [shiftL] at h2
    rcases List.mem_cons.1 h2 with rfl | h2
    · exact ⟨x, by simp, 0, by simp⟩
    · obtain ⟨z, hz, rfl⟩ := List.mem_map.1 h2
      exact ⟨z, by simp [hz], _, rfl⟩
theorem says_noEol (raw : Str) : ∀ x ∈ says (lns raw), noEol x := by
  intro x hx
  obtain ⟨y, hy, n, rfl⟩ := says_mem hx
  intro c hc
  exact lns_noEol _ raw (Nat.le_refl _) y hy c ((List.drop_sublist _ _).subset hc)
theorem joinS_mem {c : UInt8} : ∀ (l : List Str), c ∈ joinS l [10] → c = 10 ∨ ∃ x ∈ l, c ∈ x
  | [], h => by rw [joinS_nil] at h; simp at h
  | [x], h => by rw [joinS_one] at h; exact .inr ⟨x, by simp, h⟩
  | x :: y :: l, h => by
    rw [joinS_cons2] at h
    rcases List.mem_append.1 h with h | h
    · exact .inr ⟨x, by simp, h⟩
    · rcases List.mem_append.1 h with h | h
      · exact .inl (by simpa using h)
      · rcases joinS_mem (y :: l) h with h | ⟨z, hz, h⟩
        · exact .inl h
        · exact .inr ⟨z, by simp [hz], h⟩
theorem value_no13 (raw : Str) : ∀ c ∈ value raw, c ≠ 13 := by
  intro c hc
  rcases joinS_mem _ hc with rfl | ⟨x, hx, hc⟩
  · decide
  · exact (says_noEol raw x hx c hc).2
/-! moved further in -/
theorem bare_gap {g x : Str} (hg : bare g = true) : bare (g ++ x) = bare x := by
  unfold bare at *; rw [List.all_append, hg, Bool.true_and]
theorem lead_gap {g x : Str} (hg : bare g = true) : leadN (g ++ x) = g.length + leadN x := by
  unfold leadN
  rw [List.takeWhile_append_of_pos (fun a ha => List.all_eq_true.1 hg a ha), List.length_append]
theorem least_gap {g : Str} (hg : bare g = true) : ∀ (l : List Str) (m : Int), -1 ≤ m → (l.map (g ++ ·)).foldl leastI (if m < 0 then m else m + g.length) = (let q := l.foldl leastI m; if q < 0 then q else q + g.length)
  | [], m, _ => rfl
  | x :: l, m, h => by
    simp only [List.map_cons, List.foldl_cons]
    have e : leastI (if m < 0 then m else m + g.length) (g ++ x) = (if leastI m x < 0 then leastI m x else leastI m x + g.length) := by
      unfold leastI
      rw [bare_gap hg, lead_gap hg]
      by_cases hb : bare x = true
      · simp [hb]
      · simp only [hb, if_false, Bool.false_eq_true]
        by_cases hm : m < 0
        · have h1 : ¬ ((leadN x : Int) < 0) := by omega
          simp only [hm, if_true, h1, if_false]; omega
        · have h1 : ¬ (m + (g.length : Int) < 0) := by omega
          by_cases h2 : (leadN x : Int) < m
          · have h3 : ((g.length + leadN x : Nat) : Int) < m + g.length := by omega
            have h4 : ¬ ((leadN x : Int) < 0) := by omega
            simp only [hm, if_false, h1, h2, if_true, h3, h4]; omega
          · have h3 : ¬ (((g.length + leadN x : Nat) : Int) < m + g.length) := by omega
            simp only [hm, if_false, h1, h2, h3]
    rw [e]
    exact least_gap hg l (leastI m x) (leastI_ge m x h)
theorem least_bare : ∀ (l : List Str) (m : Int), -1 ≤ m → l.foldl leastI m < 0 → (∀ x ∈ l, bare x = true) ∧ m < 0
  | [], m, _, h => ⟨by simp, h⟩
  | x :: l, m, hm, h => by
    obtain ⟨h1, h2⟩ := least_bare l _ (leastI_ge m x hm) h
    unfold leastI at h2
    by_cases hb : bare x = true
    · simp only [hb, if_true] at h2
      refine ⟨fun y hy => ?_, h2⟩
      rcases List.mem_cons.1 hy with rfl | hy
      · exact hb
      · exact h1 y hy
    · simp only [hb, if_false, Bool.false_eq_true] at h2
      split at h2
      · omega
      · split at h2 <;> omega
theorem trimF_all {l : List Str} (h : ∀ x ∈ l, bare x = true) : trimF l = [] := by
  unfold trimF; exact dw_all h
theorem says_gap {g : Str} (hg : bare g = true) (l : List Str) : says ([] :: l) = says ([] :: l.map (g ++ ·)) := by
  have h := least_gap hg l (-1) (by omega)
  simp only [show ((-1 : Int) < 0) by omega, if_true] at h
  unfold says
  have i1 : indent ([] :: l) = l.foldl leastI (-1) := rfl
  have i2 : indent ([] :: l.map (g ++ ·)) = (l.map (g ++ ·)).foldl leastI (-1) := rfl
  rw [i1, i2, h]
  by_cases hn : l.foldl leastI (-1) < 0
  · have hb := (least_bare l _ (by omega) hn).1
    have t1 : trimF (shiftL (l.foldl leastI (-1)).toNat ([] :: l)) = [] := by
      apply trimF_all
      intro x hx
      simp only [shiftL] at hx
      rcases List.mem_cons.1 hx with rfl | hx
      · rfl
      · obtain ⟨y, hy, rfl⟩ := List.mem_map.1 hx
        have := hb y hy
        exact List.all_eq_true.2 fun c hc => List.all_eq_true.1 this c ((List.drop_sublist _ _).subset hc)
    have t2 : trimF (shiftL (if l.foldl leastI (-1) < 0 then l.foldl leastI (-1) else l.foldl leastI (-1) + g.length).toNat ([] :: l.map (g ++ ·))) = [] := by
      apply trimF_all
      intro x hx
      simp only [shiftL] at hx
      rcases List.mem_cons.1 hx with rfl | hx
      · rfl
      · obtain ⟨y, hy, rfl⟩ := List.mem_map.1 hx
        obtain ⟨z, hz, rfl⟩ := List.mem_map.1 hy
        have := hb z hz
        have h2 : bare (g ++ z) = true := by rw [bare_gap hg]; exact this
        exact List.all_eq_true.2 fun c hc => List.all_eq_true.1 h2 c ((List.drop_sublist _ _).subset hc)
    rw [t1, t2]
  · simp only [hn, if_false]
    have : shiftL (l.foldl leastI (-1)).toNat ([] :: l) = shiftL (l.foldl leastI (-1) + g.length).toNat ([] :: l.map (g ++ ·)) := by
      simp only [shiftL, List.map_map]
      congr 1
      apply List.map_congr_left
      intro x _
      simp only [Function.comp_apply]
      have : (l.foldl leastI (-1) + (g.length : Int)).toNat = g.length + (l.foldl leastI (-1)).toNat := by omega
      rw [this, List.drop_append]
      simp
    rw [this]
end Go.Proofs.Ytlaomadhhdcflaa

/-
  Layer 2: what the functions compute.
-/
set_option linter.unusedVariables false
set_option linter.unusedSimpArgs false
open Go Go.Ev
namespace Go.Proofs.Ytlaomadhhdcflaa

theorem seinelaw2_awake_ok : seinelaw2_awake = some true := seinelaw2_awake_run 100 (by kernel_rfl)
theorem ltT {i n : Nat} (h : i < n) : decide ((i : Int) < (n : Int)) = true := by simp; omega
theorem ltF {i n : Nat} (h : n ≤ i) : decide ((i : Int) < (n : Int)) = false := by simp; omega
theorem u8eq {c : UInt8} {n : Nat} (hn : n < 256) : ((c.toNat : Int) == (n : Int)) = (c == UInt8.ofNat n) := by
  rw [Bool.eq_iff_iff]
  simp only [beq_iff_eq]
  constructor
  · intro h
    have : c.toNat = n := by omega
    rw [← this]; simp
  · rintro rfl
    simp [UInt8.toNat_ofNat, Nat.mod_eq_of_lt hn]
theorem u10 (c : UInt8) : ((c.toNat : Int) == 10) = (c == 10) := u8eq (n := 10) (by decide)
theorem u13 (c : UInt8) : ((c.toNat : Int) == 13) = (c == 13) := u8eq (n := 13) (by decide)
theorem u9 (c : UInt8) : ((c.toNat : Int) == 9) = (c == 9) := u8eq (n := 9) (by decide)
theorem u32 (c : UInt8) : ((c.toNat : Int) == 32) = (c == 32) := u8eq (n := 32) (by decide)
theorem drop_cons {α : Type} {l : List α} {i : Nat} {x : α} (h : l[i]? = some x) : l.drop i = x :: l.drop (i + 1) := by
  obtain ⟨hlt, hx⟩ := List.getElem?_eq_some_iff.1 h
  rw [List.drop_eq_getElem_cons hlt, hx]
/-! lines -/
/-- The text from a place on, up to another. -/
def cut {α : Type} (s : List α) (f i : Nat) : List α := (s.take i).drop f
theorem cut_same {α : Type} (s : List α) (i : Nat) : cut s i i = [] := by unfold cut; simp
theorem cut_next {α : Type} {s : List α} {f i : Nat} {c : α} (hf : f ≤ i) (h : s[i]? = some c) : cut s f (i + 1) = cut s f i ++ [c] := by
  obtain ⟨hlt, hx⟩ := List.getElem?_eq_some_iff.1 h
  unfold cut
  rw [List.take_add_one, h, Option.toList_some, List.drop_append_of_le_length (by simp; omega)]
theorem tslc_cut {α : Type} {s : List α} {f i : Nat} (hf : f ≤ i) (hi : i ≤ s.length) : tslc s (f : Int) (i : Int) = some (cut s f i) := by
  rw [tslc_ok (by omega)]; simp [cut]
theorem lines_loop (s : Str) (hs : s.length ≤ 1073741824) : ∀ (n i f : Nat) (l : List Str), s.length - i ≤ n → f ≤ i → i ≤ s.length → l.length ≤ i →
    ∃ l' f' : _, tloop (block_Lines_l1T s) ((i : Int), l, (f : Int)) = some (l', ((f' : Nat) : Int)) ∧ f' ≤ s.length ∧ l' ++ [s.drop f'] = l ++ lnsA (cut s f i) (s.drop i) ∧ l'.length ≤ s.length := by
  intro n
  induction n with
  | zero =>
    intro i f l h1 h2 h3 h4
    have : i = s.length := by omega
    subst this
    refine ⟨l, f, tloop_exit (by simp only [block_Lines_l1T, end_lt, cnd_f]), h2, ?_, h4⟩
    rw [List.drop_length, lnsA_nil]; simp [cut]
  | succ n ih =>
    intro i f l h1 h2 h3 h4
    by_cases hi : i = s.length
    · subst hi
      refine ⟨l, f, tloop_exit (by simp only [block_Lines_l1T, end_lt, cnd_f]), h2, ?_, h4⟩
      rw [List.drop_length, lnsA_nil]; simp [cut]
    have hlt : i < s.length := by omega
    obtain ⟨c, hc⟩ : ∃ c, s[i]? = some c := ⟨_, List.getElem?_eq_getElem hlt⟩
    have e1 : nthI s (i : Int) = some c := by rw [nthI_nat]; exact hc
    have hd := drop_cons hc
    have e2 : IntKind.wrap .i64 ((i : Int) + 1) = ((i + 1 : Nat) : Int) := wadd (by omega)
    have ta : tapp l [cut s f i] = some (l ++ [cut s f i]) := tapp_ok (by rw [lim_val]; simp; omega)
    have tc := tslc_cut (s := s) h2 h3
    by_cases h10 : c = 10
    · subst h10
      have st : block_Lines_l1T s ((i : Int), l, (f : Int)) = some (.inl (((i + 1 : Nat) : Int), l ++ [cut s f i], ((i + 1 : Nat) : Int))) := by
        simp only [block_Lines_l1T, ltT hlt, cnd_t, e1, bnd_s, bne, u10, u13, tc, ta, e2]
        rfl
      obtain ⟨l', f', k1, k2, k3, k4⟩ := ih (i + 1) (i + 1) (l ++ [cut s f i]) (by omega) (by omega) (by omega) (by simp; omega)
      refine ⟨l', f', by rw [tloop_next st]; exact k1, k2, ?_, k4⟩
      rw [k3, hd, lnsA_10, cut_same]; simp
    by_cases h13 : c = 13
    · subst h13
      by_cases hh : (s.drop (i + 1)).head? = some 10
      · -- two bytes
        have hc1 : s[i + 1]? = some 10 := by rw [List.head?_drop] at hh; exact hh
        have hlt1 : i + 1 < s.length := (List.getElem?_eq_some_iff.1 hc1).1
        have e3 : nthI s ((i + 1 : Nat) : Int) = some 10 := by rw [nthI_nat]; exact hc1
        have e4 : IntKind.wrap .i64 (((i + 1 : Nat) : Int) + 1) = ((i + 2 : Nat) : Int) := wadd (by omega)
        have st : block_Lines_l1T s ((i : Int), l, (f : Int)) = some (.inl (((i + 2 : Nat) : Int), l ++ [cut s f i], ((i + 2 : Nat) : Int))) := by
          simp only [block_Lines_l1T, ltT hlt, cnd_t, e1, bnd_s, bne, u10, u13, tc, ta, e2, ltT hlt1, e3, e4]
          rfl
        obtain ⟨l', f', k1, k2, k3, k4⟩ := ih (i + 2) (i + 2) (l ++ [cut s f i]) (by omega) (by omega) (by omega) (by simp; omega)
        refine ⟨l', f', by rw [tloop_next st]; exact k1, k2, ?_, k4⟩
        rw [k3, hd, drop_cons hc1, lnsA_crlf, cut_same]; simp
      · have st : block_Lines_l1T s ((i : Int), l, (f : Int)) = some (.inl (((i + 1 : Nat) : Int), l ++ [cut s f i], ((i + 1 : Nat) : Int))) := by
          simp only [block_Lines_l1T, ltT hlt, cnd_t, e1, bnd_s, bne, u10, u13, tc, ta, e2]
          by_cases hl1 : i + 1 < s.length
          · obtain ⟨d, hd1⟩ : ∃ d, s[i + 1]? = some d := ⟨_, List.getElem?_eq_getElem hl1⟩
            have e3 : nthI s ((i + 1 : Nat) : Int) = some d := by rw [nthI_nat]; exact hd1
            have hne : (d == 10) = false := by
              have : d ≠ 10 := by rintro rfl; exact hh (by rw [List.head?_drop]; exact hd1)
              simpa using this
            simp only [ltT hl1, e3, bnd_s, hne]; rfl
          · simp only [ltF (show s.length ≤ i + 1 by omega)]; rfl
        obtain ⟨l', f', k1, k2, k3, k4⟩ := ih (i + 1) (i + 1) (l ++ [cut s f i]) (by omega) (by omega) (by omega) (by simp; omega)
        refine ⟨l', f', by rw [tloop_next st]; exact k1, k2, ?_, k4⟩
        rw [k3, hd, lnsA_cr _ _ hh, cut_same]; simp
    · have b10 : (c == 10) = false := by simpa using h10
      have b13 : (c == 13) = false := by simpa using h13
      have st : block_Lines_l1T s ((i : Int), l, (f : Int)) = some (.inl (((i + 1 : Nat) : Int), l, (f : Int))) := by
        simp only [block_Lines_l1T, ltT hlt, cnd_t, e1, bnd_s, bne, u10, u13, b10, b13, e2]
        rfl
      obtain ⟨l', f', k1, k2, k3, k4⟩ := ih (i + 1) f l (by omega) (by omega) (by omega) (by omega)
      refine ⟨l', f', by rw [tloop_next st]; exact k1, k2, ?_, k4⟩
      rw [k3, hd, lnsA_other _ _ h10 h13, cut_next h2 hc]
theorem rlines_same (s : Str) : seineref1_Lines_l1T s = block_Lines_l1T s := by
  funext ⟨i, l, f⟩; rfl
theorem Lines_ok (s : Str) (hs : s.length ≤ 1073741824) : block_Lines s = some (lns s) := by
  apply block_Lines_run
  obtain ⟨l', f', k1, k2, k3, k4⟩ := lines_loop s hs s.length 0 0 [] (by omega) (by omega) (by omega) (by simp)
  simp only [block_Lines_B]
  rw [show tloop (block_Lines_l1T s) (0, [], 0) = _ from k1, bnd_s]
  simp only
  rw [tslc_cut k2 (Nat.le_refl _), bnd_s, tapp_ok (by rw [lim_val]; simp; omega), bnd_s]
  have : cut s f' s.length = s.drop f' := by unfold cut; rw [List.take_length]
  rw [this, k3, cut_same, List.nil_append, List.drop_zero]; rfl
theorem rLines_ok (s : Str) (hs : s.length ≤ 1073741824) : seineref1_Lines s = some (lns s) := by
  apply seineref1_Lines_run
  obtain ⟨l', f', k1, k2, k3, k4⟩ := lines_loop s hs s.length 0 0 [] (by omega) (by omega) (by omega) (by simp)
  simp only [seineref1_Lines_B, rlines_same]
  rw [show tloop (block_Lines_l1T s) (0, [], 0) = _ from k1, bnd_s]
  simp only
  rw [tslc_cut k2 (Nat.le_refl _), bnd_s, tapp_ok (by rw [lim_val]; simp; omega), bnd_s]
  have : cut s f' s.length = s.drop f' := by unfold cut; rw [List.take_length]
  rw [this, k3, cut_same, List.nil_append, List.drop_zero]; rfl
/-! blanks -/
def blanksR (s : Str) (n : Nat) : Str → Unit ⊕ Int := fun r => if bare r then .inl () else .inr (((n - r.length + leadN r : Nat)) : Int)
theorem blanks_loop (s : Str) (hs : s.length ≤ 1073741824) : tloop (block_blanks_l1T s) 0 = some (blanksR s s.length s) := by
  refine loop_list (b := block_blanks_l1T s) s (fun k (_ : Unit) => (k : Int)) (fun r _ => blanksR s s.length r) (fun _ _ => True) (by unfold Sm; omega) ?_ ?_ (s := 0) (a := ()) rfl trivial
  · intro _ _
    simp only [block_blanks_l1T, end_lt, cnd_f]; rfl
  · intro k c r _ hm hk hd h1 h2 h3 _
    have h5 : s.length - k = r.length + 1 := by
      have := congrArg List.length hd
      simpa only [List.length_drop, List.length_cons] using this
    have hlen : s.length - (c :: r).length = k := by simp only [List.length_cons]; omega
    have hlen2 : s.length - r.length = k + 1 := by omega
    simp only [block_blanks_l1T, h1, cnd_t, h2, bnd_s, bne, u9, u32, h3]
    by_cases hb : bl c = true
    · right
      refine ⟨(), ?_, trivial, ?_⟩
      · unfold bl at hb
        cases h9 : (c == 9) with
        | true => rfl
        | false =>
          rw [h9, Bool.false_or] at hb
          rw [hb]; rfl
      · unfold blanksR
        have e1 : bare (c :: r) = bare r := by simp [bare, hb]
        have e2 : leadN (c :: r) = leadN r + 1 := by simp [leadN, hb]
        rw [e1, e2, hlen, hlen2]
        split
        · rfl
        · congr 2; omega
    · left
      have hb' : bl c = false := by simpa using hb
      have h9 : (c == 9) = false := by unfold bl at hb'; simp at hb' ⊢; exact hb'.1
      have h32 : (c == 32) = false := by unfold bl at hb'; simp at hb' ⊢; exact hb'.2
      rw [h9, h32]
      unfold blanksR
      have e1 : bare (c :: r) = false := by simp [bare, hb']
      have e2 : leadN (c :: r) = 0 := by simp [leadN, hb']
      rw [e1, e2, hlen]
      rfl
theorem blanks_ok (s : Str) (hs : s.length ≤ 1073741824) : block_blanks s = some ((leadN s : Int), !bare s) := by
  apply block_blanks_run
  simp only [block_blanks_B, blanks_loop s hs, bnd_s, blanksR]
  by_cases h : bare s = true
  · simp only [h, if_true, elim_inl, leadN_bare h, Bool.not_true]
  · have h' : bare s = false := by simpa using h
    simp only [h', if_false, Bool.false_eq_true, elim_inr, Bool.not_false, Nat.sub_self, Nat.zero_add]
theorem rlead_same (s : Str) : seineref1_lead_l1T s = block_blanks_l1T s := by
  funext i; rfl
theorem rlead_ok (s : Str) (hs : s.length ≤ 1073741824) : seineref1_lead s = some ((leadN s : Int), !bare s) := by
  apply seineref1_lead_run
  simp only [seineref1_lead_B, rlead_same, blanks_loop s hs, bnd_s, blanksR]
  by_cases h : bare s = true
  · simp only [h, if_true, elim_inl, leadN_bare h, Bool.not_true]
  · have h' : bare s = false := by simpa using h
    simp only [h', if_false, Bool.false_eq_true, elim_inr, Bool.not_false, Nat.sub_self, Nat.zero_add]
theorem bare_ok (s : Str) (hs : s.length ≤ 1073741824) : block_bare s = some (bare s) := by
  apply block_bare_run
  simp only [block_bare_B, blanks_ok s hs, bnd_s, Bool.not_not]
theorem rblank_ok (s : Str) (hs : s.length ≤ 1073741824) : seineref1_blank s = some (bare s) := by
  apply seineref1_blank_run
  simp only [seineref1_blank_B, rlead_ok s hs, bnd_s, Bool.not_not]
theorem lblank_ok (s : Str) (hs : s.length ≤ 1073741824) : seinelaw2_blank s = some (bare s) := by
  apply seinelaw2_blank_run
  have h : tloop (seinelaw2_blank_l1T s) 0 = some (if bare s then .inl () else .inr () : Unit ⊕ Unit) := by
    refine loop_idx (b := seinelaw2_blank_l1T s) s (fun r => if bare r then .inl () else .inr ()) (by unfold Sm; omega) ?_ ?_
    · simp only [seinelaw2_blank_l1T, end_lt, cnd_f]; rfl
    · intro k c r hm h1 h2 h3
      simp only [seinelaw2_blank_l1T, h1, cnd_t, h2, bnd_s, bne, u9, u32, h3]
      by_cases hb : bl c = true
      · right
        refine ⟨?_, by simp [bare, hb]⟩
        unfold bl at hb
        cases h9 : (c == 9) with
        | true => rfl
        | false =>
          rw [h9, Bool.false_or] at hb
          rw [hb]; rfl
      · left
        have hb' : bl c = false := by simpa using hb
        have h9 : (c == 9) = false := by unfold bl at hb'; simp at hb' ⊢; exact hb'.1
        have h32 : (c == 32) = false := by unfold bl at hb'; simp at hb' ⊢; exact hb'.2
        have e1 : bare (c :: r) = false := by simp [bare, hb']
        rw [h9, h32, e1]; rfl
  simp only [seinelaw2_blank_B, h, bnd_s]
  cases bare s <;> rfl
/-! indents -/
theorem Indent_ok (l : List Str) (hl : l.length ≤ 1073741824) (hx : ∀ x ∈ l, x.length ≤ 1073741824) : block_Indent l = some (indent l) := by
  apply block_Indent_run
  have h : tloop (block_Indent_l1T l) (0, (-1)) = some (indent l) := by
    have := loop_list (b := block_Indent_l1T l) l (fun k (m : Int) => ((k : Int), m)) (fun r m => if r.length = l.length then (r.drop 1).foldl leastI m else r.foldl leastI m) (fun _ _ => True) (by unfold Sm; omega)
      (fun m _ => by
        simp only [block_Indent_l1T, end_lt, cnd_f]
        by_cases e : ([] : List Str).length = l.length
        · rw [if_pos e]; rfl
        · rw [if_neg e]; rfl)
      (fun k x r m hm hk hd h1 h2 h3 _ => by
        right
        have hlen : (x :: r).length = l.length - k := by rw [← hd, List.length_drop]
        have hr : ¬ r.length = l.length := by simp only [List.length_cons] at hlen; omega
        by_cases k0 : k = 0
        · subst k0
          refine ⟨m, ?_, trivial, ?_⟩
          · simp only [block_Indent_l1T, h1, cnd_t, h2, bnd_s, blanks_ok x (hx x hm), h3]; rfl
          · rw [if_pos (by simpa using hlen), if_neg hr]; rfl
        · refine ⟨leastI m x, ?_, trivial, ?_⟩
          · have kb : ((k : Int) == 0) = false := by simp; omega
            simp only [block_Indent_l1T, h1, cnd_t, h2, bnd_s, blanks_ok x (hx x hm), h3, kb, cnd_f, Bool.not_not]
            unfold leastI
            by_cases hb : bare x = true
            · simp only [hb, cnd_t, if_true]
            · have hb' : bare x = false := by simpa using hb
              simp only [hb', cnd_f, if_false, Bool.false_eq_true]
              by_cases hm0 : m < 0
              · simp only [hm0, decide_true, cnd_t, if_true]
              · simp only [hm0, decide_false, cnd_f, if_false]
                by_cases hm1 : (leadN x : Int) < m
                · simp only [hm1, decide_true, cnd_t, if_true]
                · simp only [hm1, decide_false, cnd_f, if_false]
          · rw [if_neg (by rw [hlen]; omega), if_neg hr]; rfl) (s := (0, -1)) (a := -1) rfl trivial
    rw [this, if_pos rfl]; rfl
  simp only [block_Indent_B, h, bnd_s]
theorem rIndent_ok (l : List Str) (hl : l.length ≤ 1073741824) (hx : ∀ x ∈ l, x.length ≤ 1073741824) : seineref1_Indent l = some (indent l) := by
  apply seineref1_Indent_run
  have h : tloop (seineref1_Indent_l1T l) ((-1), 1) = some (indent l) := by
    cases hl0 : l with
    | nil => exact tloop_exit (by simp only [seineref1_Indent_l1T]; rfl)
    | cons y r0 =>
      rw [← hl0]
      have := tloop_list (b := seineref1_Indent_l1T l) l (fun k (m : Int) => (m, (k : Int))) (fun r m => r.foldl leastI m) (fun _ _ => True)
        (fun m _ => by simp only [seineref1_Indent_l1T, end_lt, cnd_f]; rfl)
        (fun k x r m hk hg hd _ => by
          right
          have hm := List.mem_of_getElem? hg
          have h1 := ltT hk
          have h2 : nthI l (k : Int) = some x := by rw [nthI_nat]; exact hg
          have h3 : IntKind.wrap .i64 ((k : Int) + 1) = ((k + 1 : Nat) : Int) := wadd (by omega)
          refine ⟨leastI m x, ?_, trivial, rfl⟩
          simp only [seineref1_Indent_l1T, h1, cnd_t, h2, bnd_s, rlead_ok x (hx x hm), h3]
          unfold leastI
          by_cases hb : bare x = true
          · simp only [hb, Bool.not_true, cnd_f, if_true]
          · have hb' : bare x = false := by simpa using hb
            simp only [hb', Bool.not_false, cnd_t, if_false, Bool.false_eq_true]
            by_cases hm0 : m < 0
            · simp only [hm0, decide_true, cnd_t, if_true]
            · simp only [hm0, decide_false, cnd_f, if_false]
              by_cases hm1 : (leadN x : Int) < m
              · simp only [hm1, decide_true, cnd_t, if_true]
              · simp only [hm1, decide_false, cnd_f, if_false]) 1 (-1) (by rw [hl0]; simp) trivial
      exact this
  simp only [seineref1_Indent_B, h, bnd_s]
end Go.Proofs.Ytlaomadhhdcflaa

/-
  Layer 2: what a raw text says; the statements of the typed functions.
-/
set_option linter.unusedVariables false
set_option linter.unusedSimpArgs false
open Go Go.Ev
namespace Go.Proofs.Ytlaomadhhdcflaa

/-! the lines are moved -/
theorem shift_get {n i : Nat} {l : List Str} {x : Str} (hi : 1 ≤ i) (h : l[i]? = some x) : (shiftL n l)[i]? = some (x.drop n) := by
  cases l with
  | nil => simp at h
  | cons y r =>
    obtain ⟨j, rfl⟩ : ∃ j, i = j + 1 := ⟨i - 1, by omega⟩
    simp only [List.getElem?_cons_succ] at h
    simp only [shiftL, List.getElem?_cons_succ, List.getElem?_map, h, Option.map_some]
def mid (n i : Nat) (l : List Str) : List Str := (shiftL n l).take i ++ l.drop i
theorem mid_len (n i : Nat) (l : List Str) (h : i ≤ l.length) : (mid n i l).length = l.length := by
  unfold mid; rw [List.length_append, List.length_take, List.length_drop, shift_len]; omega
theorem mid_get {n i : Nat} {l : List Str} (h : i < l.length) : (mid n i l)[i]? = l[i]? := by
  unfold mid
  rw [List.getElem?_append_right (by rw [List.length_take, shift_len]; omega), List.length_take, shift_len, List.getElem?_drop]
  congr 1; omega
theorem mid_put {n i : Nat} {l : List Str} {x : Str} (hi : 1 ≤ i) (h : l[i]? = some x) : (mid n i l).modify i (fun _ => x.drop n) = mid n (i + 1) l := by
  have hlt := (List.getElem?_eq_some_iff.1 h).1
  apply List.ext_getElem?
  intro j
  rw [List.getElem?_modify]
  have hsl : (shiftL n l).length = l.length := shift_len n l
  unfold mid
  by_cases e : i = j
  · subst e
    simp only [↓reduceIte, Option.map_eq_map]
    rw [List.getElem?_append_right (by rw [List.length_take, hsl]; omega), List.getElem?_append_left (by rw [List.length_take, hsl]; omega),
      List.length_take, hsl, List.getElem?_drop, List.getElem?_take, if_pos (by omega), shift_get hi h]
    rw [show i + (i - min i l.length) = i by omega, h]; rfl
  · simp only [e, ↓reduceIte, Option.map_eq_map, Option.map_id']
    by_cases hj : j < i
    · rw [List.getElem?_append_left (by rw [List.length_take, hsl]; omega), List.getElem?_append_left (by rw [List.length_take, hsl]; omega), List.getElem?_take, if_pos hj, List.getElem?_take, if_pos (by omega)]
    · rw [List.getElem?_append_right (by rw [List.length_take, hsl]; omega), List.getElem?_append_right (by rw [List.length_take, hsl]; omega), List.length_take, List.length_take, hsl, List.getElem?_drop, List.getElem?_drop]
      congr 1; omega
theorem tslc_min (x : Str) (n : Nat) : tslc x (if (List.length x : Int) < (n : Int) then (List.length x : Int) else (n : Int)) (List.length x) = some (x.drop n) := by
  by_cases h : (x.length : Int) < (n : Int)
  · rw [if_pos h, tslc_ok (by omega)]
    rw [List.drop_of_length_le (show x.length ≤ n by omega)]; simp
  · rw [if_neg h, tslc_ok (by omega)]
    simp
theorem move_loop (l : List Str) (n : Nat) (hl : l.length ≤ 1073741824) : ∀ (k i : Nat), l.length - i ≤ k → 1 ≤ i → i ≤ l.length → tloop (block_Value_l1T l (n : Int)) ((i : Int), mid n i l) = some (shiftL n l) := by
  have hend : ∀ i, i = l.length → tloop (block_Value_l1T l (n : Int)) ((i : Int), mid n i l) = some (shiftL n l) := by
    rintro i rfl
    refine tloop_exit ?_
    simp only [block_Value_l1T, end_lt, cnd_f, mid, List.drop_length, List.append_nil]
    rw [List.take_of_length_le (by rw [shift_len]; exact Nat.le_refl _)]
  intro k
  induction k with
  | zero => intro i h1 h2 h3; exact hend i (by omega)
  | succ k ih =>
    intro i h1 h2 h3
    by_cases hi : i = l.length
    · exact hend i hi
    have hlt : i < l.length := by omega
    obtain ⟨x, hx⟩ : ∃ x, l[i]? = some x := ⟨_, List.getElem?_eq_getElem hlt⟩
    have e1 : tixR (List.length l) (i : Int) = some i := by rw [tixR_ok (by omega)]; simp
    have e2 : tget (mid n i l) i (fun z : Str => z) = some x := by unfold tget; rw [mid_get hlt, hx]; rfl
    have e3 : IntKind.wrap .i64 ((i : Int) + 1) = ((i + 1 : Nat) : Int) := wadd (by omega)
    have st : block_Value_l1T l (n : Int) ((i : Int), mid n i l) = some (.inl (((i + 1 : Nat) : Int), mid n (i + 1) l)) := by
      simp only [block_Value_l1T, ltT hlt, cnd_t, e1, bnd_s, e2, tslc_min, e3]
      rw [tput_ok (by rw [mid_len n i l h3]; exact hlt), bnd_s, mid_put h2 hx]
    rw [tloop_next st]
    exact ih (i + 1) (by omega) (by omega) (by omega)
theorem move_all (l : List Str) (n : Nat) (hl : l.length ≤ 1073741824) (hne : l ≠ []) : tloop (block_Value_l1T l (n : Int)) (1, l) = some (shiftL n l) := by
  have h1 : 1 ≤ l.length := by cases l with
    | nil => exact absurd rfl hne
    | cons x r => simp
  have := move_loop l n hl l.length 1 (by omega) (by omega) h1
  have e : mid n 1 l = l := by
    cases l with
    | nil => rfl
    | cons x r => simp [mid, shiftL]
  rw [e] at this
  exact this
/-! trimmed -/
def Ok (l : List Str) : Prop := l.length ≤ 1073741824 ∧ ∀ x ∈ l, x.length ≤ 1073741824
theorem Ok.of_wt {l : List Str} (h : wt l ≤ 1073741824) : Ok l := ⟨Nat.le_trans (wt_len l) h, fun x hx => by have := wt_mem hx; omega⟩
theorem front_loop {b : List Str → Option (List Str ⊕ List Str)} (hb : ∀ l, Ok l → b l = cnd (decide ((List.length l : Int) > 0)) (bnd (nthI l 0) fun x => bnd (block_bare x) fun y => cnd y (bnd (tslc l 1 (List.length l)) fun z => some (.inl z)) (some (.inr l))) (some (.inr l))) :
    ∀ l, Ok l → tloop b l = some (trimF l) := by
  refine tloop_eq Ok List.length trimF ?_
  intro l hl
  rw [hb l hl]
  cases l with
  | nil => left; rfl
  | cons x r =>
    have d : decide ((List.length (x :: r) : Int) > 0) = true := decide_eq_true (by rw [List.length_cons]; omega)
    have e1 : nthI (x :: r) 0 = some x := rfl
    rw [d, cnd_t, e1, bnd_s, bare_ok x (hl.2 x (by simp)), bnd_s]
    have e2 : tslc (x :: r) 1 (List.length (x :: r)) = some r := by
      rw [tslc_ok (by simp only [List.length_cons]; omega)]; simp
    rw [e2, bnd_s]
    by_cases h : bare x = true
    · right
      refine ⟨r, by rw [h]; rfl, ⟨?_, fun y hy => hl.2 y (by simp [hy])⟩, by simp, by simp [trimF, h]⟩
      have := hl.1; simp at this; omega
    · left
      have h' : bare x = false := by simpa using h
      rw [h', cnd_f]; try simp [trimF, h']
theorem back_loop {b : List Str → Option (List Str ⊕ List Str)} (hb : ∀ l, Ok l → b l = cnd (decide ((List.length l : Int) > 0)) (bnd (nthI l (IntKind.wrap .i64 ((List.length l : Int) - 1))) fun x => bnd (block_bare x) fun y => cnd y (bnd (tslc l 0 (IntKind.wrap .i64 ((List.length l : Int) - 1))) fun z => some (.inl z)) (some (.inr l))) (some (.inr l))) :
    ∀ l, Ok l → tloop b l = some (trimB l) := by
  refine tloop_eq Ok List.length trimB ?_
  intro l hl
  rw [hb l hl]
  rcases List.eq_nil_or_concat l with rfl | ⟨m, x, rfl⟩
  · left; rfl
  · rw [List.concat_eq_append] at hl ⊢
    have hlen : (m ++ [x]).length = m.length + 1 := by simp
    have hm := hl.1
    rw [hlen] at hm
    have d : decide ((List.length (m ++ [x]) : Int) > 0) = true := decide_eq_true (by rw [hlen]; omega)
    have w : IntKind.wrap .i64 ((List.length (m ++ [x]) : Int) - 1) = (m.length : Int) := by rw [hlen, wi (by omega)]; omega
    have e1 : nthI (m ++ [x]) (m.length : Int) = some x := by rw [nthI_nat]; simp
    rw [d, cnd_t, w, e1, bnd_s, bare_ok x (hl.2 x (by simp)), bnd_s]
    have e2 : tslc (m ++ [x]) 0 (m.length : Int) = some m := by
      rw [tslc_ok (by rw [hlen]; omega)]; simp
    rw [e2, bnd_s, trimB_snoc]
    by_cases h : bare x = true
    · right
      refine ⟨m, by rw [h]; rfl, ⟨by omega, fun y hy => hl.2 y (by simp [hy])⟩, by simp, by rw [if_pos h]⟩
    · left
      have h' : bare x = false := by simpa using h
      rw [h', cnd_f]; try rw [if_neg (by simp)]
theorem Value_ok (raw : Str) (hr : raw.length ≤ 1073741000) : block_Value raw = some (value raw) := by
  apply block_Value_run
  have hw := wt_lns raw
  have hwl : wt (lns raw) ≤ 1073741824 := by omega
  have ok := Ok.of_wt hwl
  have hne := lns_ne raw
  simp only [block_Value_B, Lines_ok raw (by omega), bnd_s, ble_self, Bool.and_true, cnd_t, List.take_length, Indent_ok _ ok.1 ok.2]
  have okS : ∀ n, Ok (shiftL n (lns raw)) := fun n => Ok.of_wt (Nat.le_trans (wt_shift n _) hwl)
  have okF : ∀ n, Ok (trimF (shiftL n (lns raw))) := fun n => Ok.of_wt (Nat.le_trans (wt_trimF _) (Nat.le_trans (wt_shift n _) hwl))
  have fin : ∀ n, wt (trimB (trimF (shiftL n (lns raw)))) ≤ 1073741824 := fun n => Nat.le_trans (wt_trimB _) (Nat.le_trans (wt_trimF _) (Nat.le_trans (wt_shift n _) hwl))
  have join : ∀ n, strings_Join (trimB (trimF (shiftL n (lns raw)))) [10] = some (joinS (trimB (trimF (shiftL n (lns raw)))) [10]) := by
    intro n
    apply strings_Join_run
    have h1 := fin n
    have h2 := wt_len (trimB (trimF (shiftL n (lns raw))))
    have h3 := joinS_len (trimB (trimF (shiftL n (lns raw))))
    unfold tJoin
    rw [if_pos (by constructor <;> omega)]
  have hge := indent_ge (lns raw)
  by_cases hp : indent (lns raw) > 0
  · obtain ⟨n, hn⟩ := Int.eq_ofNat_of_zero_le (Int.le_of_lt hp)
    have e1 : (indent (lns raw)).toNat = n := by omega
    simp only [hp, decide_true, cnd_t]
    have hmv := move_all (lns raw) n ok.1 hne
    rw [hn, hmv, bnd_s, shift_len, ble_self, cnd_t]
    rw [List.take_of_length_le (by rw [shift_len]; exact Nat.le_refl _)]
    rw [front_loop (b := block_Value_l2T) (fun l _ => rfl) _ (okS n), bnd_s, back_loop (b := block_Value_l3T) (fun l _ => rfl) _ (okF n), bnd_s, join n, bnd_s]
    unfold value says; rw [e1]
  · have e1 : (indent (lns raw)).toNat = 0 := by omega
    have es : shiftL 0 (lns raw) = lns raw := by cases lns raw <;> simp [shiftL]
    have := join 0
    rw [es] at this
    have o2 := okF 0
    rw [es] at o2
    simp only [hp, decide_false, cnd_f]
    rw [front_loop (b := block_Value_l4T) (fun l _ => rfl) _ ok, bnd_s, back_loop (b := block_Value_l5T) (fun l _ => rfl) _ o2, bnd_s, this, bnd_s]
    unfold value says; rw [e1, es]
/-! the page's -/
theorem rmove_same (l : List Str) (y : Int) : seineref1_Block_l1T l y = block_Value_l1T l (if (0 : Int) > y then 0 else y) := by
  funext ⟨i, b⟩; rfl
theorem rfront_loop (l : List Str) (ok : Ok l) (y1 b : List Str) (hb : List.take (List.length y1) b = l) : tloop (seineref1_Block_l2T y1 b) 0 = some ((l.length - (trimF l).length : Nat) : Int) := by
  refine loop_list (b := seineref1_Block_l2T y1 b) l (fun k (_ : Unit) => (k : Int)) (fun r _ => ((l.length - (trimF r).length : Nat) : Int)) (fun _ _ => True) (by have := ok.1; unfold Sm; omega) ?_ ?_ (s := 0) (a := ()) rfl trivial
  · intro _ _
    simp only [seineref1_Block_l2T, hb, end_lt, cnd_f]; simp [trimF]
  · intro k x r _ hm hk hd h1 h2 h3 _
    have h5 : l.length - k = r.length + 1 := by
      have := congrArg List.length hd
      simpa only [List.length_drop, List.length_cons] using this
    simp only [seineref1_Block_l2T, hb, h1, cnd_t, h2, bnd_s, rblank_ok x (ok.2 x hm), h3]
    by_cases h : bare x = true
    · right; exact ⟨(), by rw [h]; rfl, trivial, by simp [trimF, h]⟩
    · left
      have h' : bare x = false := by simpa using h
      rw [h', cnd_f]
      have : trimF (x :: r) = x :: r := by simp [trimF, h']
      rw [this, List.length_cons]
      congr 2; omega
theorem rback_loop (l : List Str) (ok : Ok l) (y1 b : List Str) (hb : List.take (List.length y1) b = l) (f : Nat) (hf : f ≤ l.length) :
    tloop (seineref1_Block_l3T y1 b (f : Int)) (l.length : Int) = some ((f + (trimB (cut l f l.length)).length : Nat) : Int) := by
  have := tloop_eq (b := seineref1_Block_l3T y1 b (f : Int)) (fun s => ∃ t : Nat, s = (t : Int) ∧ f ≤ t ∧ t ≤ l.length) Int.toNat (fun s => ((f + (trimB (cut l f s.toNat)).length : Nat) : Int)) (by
    rintro s ⟨t, rfl, h1, h2⟩
    by_cases ht : t = f
    · left
      subst ht
      have d : decide ((t : Int) > (t : Int)) = false := by simp
      simp only [seineref1_Block_l3T, d, cnd_f, Int.toNat_natCast, cut_same, trimB_nil, List.length_nil, Nat.add_zero]
    · obtain ⟨j, rfl⟩ : ∃ j, t = j + 1 := ⟨t - 1, by omega⟩
      have hj : j < l.length := by omega
      obtain ⟨x, hx⟩ : ∃ x, l[j]? = some x := ⟨_, List.getElem?_eq_getElem hj⟩
      have d : decide (((j + 1 : Nat) : Int) > (f : Int)) = true := by simp; omega
      have hlen := ok.1
      have w : IntKind.wrap .i64 (((j + 1 : Nat) : Int) - 1) = (j : Int) := by rw [wi (by omega)]; omega
      have e1 : nthI l (j : Int) = some x := by rw [nthI_nat]; exact hx
      simp only [seineref1_Block_l3T, d, cnd_t, hb, w, e1, bnd_s, rblank_ok x (ok.2 x (List.mem_of_getElem? hx)), Int.toNat_natCast]
      rw [cut_next (by omega) hx, trimB_snoc]
      by_cases h : bare x = true
      · right
        refine ⟨(j : Int), by rw [h]; rfl, ⟨j, rfl, by omega, by omega⟩, by simp, by rw [if_pos h, Int.toNat_natCast]⟩
      · left
        have h' : bare x = false := by simpa using h
        rw [h', cnd_f]; try rw [if_neg (by simp)]
        congr 3
        have : (cut l f j).length = j - f := by unfold cut; simp; omega
        simp only [List.length_append, List.length_singleton, this]; omega) (l.length : Int) ⟨l.length, rfl, hf, Nat.le_refl _⟩
  rw [Int.toNat_natCast] at this
  exact this
theorem wt_cut (l : List Str) (f i : Nat) : wt (cut l f i) ≤ wt l := by
  have h1 : l = l.take i ++ l.drop i := (List.take_append_drop i l).symm
  have h2 : l.take i = (l.take i).take f ++ (l.take i).drop f := (List.take_append_drop f _).symm
  have e1 : wt l = wt (l.take i) + wt (l.drop i) := by conv => lhs; rw [h1, wt_app]
  have e2 : wt (l.take i) = wt ((l.take i).take f) + wt ((l.take i).drop f) := by conv => lhs; rw [h2, wt_app]
  unfold cut; omega
theorem rjoin_loop (l : List Str) (hw : wt l ≤ 1073741824) (y1 b : List Str) (hb : List.take (List.length y1) b = l) (f t : Nat) (ht : t ≤ l.length) : ∀ (k i : Nat), t - i ≤ k → f ≤ i → i ≤ t →
    tloop (seineref1_Block_l4T y1 b (f : Int) (t : Int)) (joinS (cut l f i) [10], (i : Int)) = some (joinS (cut l f t) [10]) := by
  intro k
  induction k with
  | zero =>
    intro i h1 h2 h3
    have : i = t := by omega
    subst this
    exact tloop_exit (by simp only [seineref1_Block_l4T, end_lt, cnd_f])
  | succ k ih =>
    intro i h1 h2 h3
    by_cases hi : i = t
    · subst hi; exact tloop_exit (by simp only [seineref1_Block_l4T, end_lt, cnd_f])
    have hlt : i < t := by omega
    obtain ⟨x, hx⟩ : ∃ x, l[i]? = some x := ⟨_, List.getElem?_eq_getElem (by omega)⟩
    have e1 : nthI l (i : Int) = some x := by rw [nthI_nat]; exact hx
    have hl := wt_len l
    have e3 : IntKind.wrap .i64 ((i : Int) + 1) = ((i + 1 : Nat) : Int) := wadd (by omega)
    have hj := joinS_len (cut l f i)
    have hc := wt_cut l f i
    have hxl := wt_mem (List.mem_of_getElem? hx)
    have st : seineref1_Block_l4T y1 b (f : Int) (t : Int) (joinS (cut l f i) [10], (i : Int)) = some (.inl (joinS (cut l f (i + 1)) [10], ((i + 1 : Nat) : Int))) := by
      simp only [seineref1_Block_l4T, ltT hlt, cnd_t, hb, e1, bnd_s, e3]
      rw [cut_next h2 hx]
      by_cases hif : i = f
      · subst hif
        have d : decide ((i : Int) > (i : Int)) = false := by simp
        rw [d, cnd_f, cut_same, joinS_nil, List.nil_append, joinS_one, tapp_ok (by rw [lim_val]; simp; omega), bnd_s, List.nil_append]
      · have d : decide ((i : Int) > (f : Int)) = true := by simp; omega
        rw [d, cnd_t, tapp_ok (by rw [lim_val]; simp; omega), bnd_s, tapp_ok (by rw [lim_val]; simp; omega), bnd_s]
        have hne : cut l f i ≠ [] := by
          intro e
          have := congrArg List.length e
          simp [cut] at this; omega
        rw [joinS_snoc _ _ _ hne]
        simp
    rw [tloop_next st]
    exact ih (i + 1) (by omega) (by omega) (by omega)
theorem rBlock_ok (raw : Str) (hr : raw.length ≤ 1073741000) : seineref1_Block raw = some (value raw) := by
  apply seineref1_Block_run
  have hw := wt_lns raw
  have hwl : wt (lns raw) ≤ 1073741824 := by omega
  have ok := Ok.of_wt hwl
  have hne := lns_ne raw
  simp only [seineref1_Block_B, rLines_ok raw (by omega), bnd_s, ble_self, Bool.and_true, cnd_t, List.take_length, rIndent_ok _ ok.1 ok.2, rmove_same]
  have hge := indent_ge (lns raw)
  obtain ⟨n, hn⟩ : ∃ n : Nat, (if (0 : Int) > indent (lns raw) then 0 else indent (lns raw)) = (n : Int) ∧ n = (indent (lns raw)).toNat := by
    refine ⟨(indent (lns raw)).toNat, ?_, rfl⟩
    split <;> omega
  rw [hn.1, move_all (lns raw) n ok.1 hne, bnd_s, shift_len, ble_self, cnd_t]
  have hb : List.take (List.length (lns raw)) (shiftL n (lns raw)) = shiftL n (lns raw) := List.take_of_length_le (by rw [shift_len]; exact Nat.le_refl _)
  have hwS : wt (shiftL n (lns raw)) ≤ 1073741824 := Nat.le_trans (wt_shift n _) hwl
  have okS := Ok.of_wt hwS
  rw [rfront_loop _ okS _ _ hb, bnd_s, hb]
  generalize hL : shiftL n (lns raw) = L at *
  have hFle : (trimF L).length ≤ L.length := (List.dropWhile_sublist bare).length_le
  have hsuf : L.drop (L.length - (trimF L).length) = trimF L := by
    have h1 : L = L.takeWhile bare ++ L.dropWhile bare := (List.takeWhile_append_dropWhile).symm
    have h2 : L.length - (trimF L).length = (L.takeWhile bare).length := by
      have := congrArg List.length h1
      rw [List.length_append] at this
      unfold trimF; omega
    rw [h2]
    conv => lhs; rw [h1]
    rw [List.drop_left']
    · rfl
    · rw [← h1]
  generalize hf : L.length - (trimF L).length = f at *
  rw [rback_loop L okS _ _ hb f (by omega), bnd_s]
  have hcut : cut L f L.length = trimF L := by unfold cut; rw [List.take_length, hsuf]
  rw [hcut]
  obtain ⟨r, hrest⟩ := trimB_pre _ (trimF L) (Nat.le_refl _)
  have hBle : (trimB (trimF L)).length ≤ (trimF L).length := by
    have := congrArg List.length hrest
    rw [List.length_append] at this
    omega
  have hj := rjoin_loop L hwS _ _ hb f (f + (trimB (trimF L)).length) (by omega) L.length f (by omega) (Nat.le_refl _) (by omega)
  rw [cut_same, joinS_nil] at hj
  rw [hj, bnd_s]
  have : cut L f (f + (trimB (trimF L)).length) = trimB (trimF L) := by
    unfold cut
    rw [List.drop_take, hsuf, show f + (trimB (trimF L)).length - f = (trimB (trimF L)).length by omega]
    generalize trimB (trimF L) = B at hrest ⊢
    rw [hrest]; simp
  rw [this]
  unfold value says
  rw [← hn.2, hL]
/-! the statements -/
theorem long3 {α : Type} {s : List α} : decide ((s.length : Int) > 3000) = true ∨ (decide ((s.length : Int) > 3000) = false ∧ s.length ≤ 3000) := by
  by_cases h : (s.length : Int) > 3000
  · left; simpa using h
  · right; exact ⟨by simpa using h, by omega⟩
theorem SameTexts_self (l : List Str) (h : l.length ≤ 1073741824) : seinekeep_SameTexts l l = some true := by
  apply seinekeep_SameTexts_run
  have hl := loop_all (b := seinekeep_SameTexts_l1T l l) l (.inl () : Unit ⊕ Unit) (by unfold Sm; omega) (by simp only [seinekeep_SameTexts_l1T, end_lt, cnd_f])
    (fun k x hx h1 h2 h3 => by
      simp only [seinekeep_SameTexts_l1T, h1, h2, h3, bnd_s, cnd_t, beq_self_eq_true, Bool.not_true, cnd_f])
  simp only [seinekeep_SameTexts_B, bne_self_eq_false, cnd_f, hl, bnd_s, elim_inl]
theorem BlockSays_ok (raw : Str) : seinelaw2_BlockSays raw = some true := by
  apply seinelaw2_BlockSays_run
  simp only [seinelaw2_BlockSays_B, seinelaw2_awake_ok, bnd_s]
  rcases long3 (s := raw) with h | ⟨h, hl⟩
  · rw [h]; rfl
  have hw := wt_lns raw
  have ok := Ok.of_wt (show wt (lns raw) ≤ 1073741824 by omega)
  simp only [h, cnd_f, Lines_ok raw (by omega), rLines_ok raw (by omega), bnd_s, SameTexts_self _ ok.1, cnd_t, Indent_ok _ ok.1 ok.2, rIndent_ok _ ok.1 ok.2, beq_self_eq_true, Value_ok raw (by omega), rBlock_ok raw (by omega)]
theorem Texts_ok (l : List Str) (hl : l.length ≤ 1073741824) : seinekeep_Texts l = some (l, [[109, 97, 114, 107]]) := by
  apply seinekeep_Texts_run
  simp only [seinekeep_Texts_B, wadd (show l.length < 9223372036854775807 by omega)]
  rw [tmk_ok (by rw [lim_val]; omega), bnd_s, tapp_ok (by rw [lim_val]; simp; omega), bnd_s, List.nil_append, tapp_ok (by rw [lim_val]; simp; omega), bnd_s, tslb_ok (by simp; omega), bnd_s]
  simp
theorem TextsStay_ok (l : List Str) (hl : l.length ≤ 1073741824) : seinekeep_TextsStay l [[109, 97, 114, 107]] l = some true := by
  apply seinekeep_TextsStay_run
  simp only [seinekeep_TextsStay_B, wadd (show l.length < 9223372036854775807 by omega), SameTexts_self l hl, bnd_s, cnd_t]
  rw [tslb_ok (by simp; omega), bnd_s, nthI_nat]
  have : ((l ++ [[109, 97, 114, 107]]).take (((l.length + 1 : Nat) : Int).toNat)).drop (0 : Int).toNat = l ++ [[109, 97, 114, 107]] := by
    simp only [Int.toNat_natCast, Int.toNat_zero, List.drop_zero]; exact List.take_of_length_le (by simp)
  simp only [this]
  rw [List.getElem?_append_right (Nat.le_refl _)]
  simp
theorem BlockIndents_ok (l : List Str) (hx : ∀ x ∈ l, x.length ≤ 1073741824) : seinelaw2_BlockIndents l = some true := by
  apply seinelaw2_BlockIndents_run
  simp only [seinelaw2_BlockIndents_B, seinelaw2_awake_ok, bnd_s]
  by_cases h : (l.length : Int) > 300
  · simp only [h, decide_true, cnd_t]
  have hl : l.length ≤ 1073741824 := by omega
  simp only [h, decide_false, cnd_f]
  have hloop : tloop (seinelaw2_BlockIndents_l1T l) 0 = some (.inl () : Unit ⊕ Bool) ∨ tloop (seinelaw2_BlockIndents_l1T l) 0 = some (.inr true : Unit ⊕ Bool) := by
    have := loop_find (b := seinelaw2_BlockIndents_l1T l) l (fun x => if (x.length : Int) > 300 then some (.inr true : Unit ⊕ Bool) else none) (.inl ()) (by unfold Sm; omega) (by simp only [seinelaw2_BlockIndents_l1T, end_lt, cnd_f])
      (fun k x hm h1 h2 h3 => by
        simp only [seinelaw2_BlockIndents_l1T, h1, cnd_t, h2, bnd_s, h3, seinelaw2_awake_ok]
        by_cases hq : (x.length : Int) > 300
        · simp only [hq, decide_true, cnd_t, if_true]
        · simp only [hq, decide_false, cnd_f, if_false])
    rw [this]
    cases hf : l.findSome? (fun x => if (x.length : Int) > 300 then some (.inr true : Unit ⊕ Bool) else none) with
    | none => left; rfl
    | some y =>
      right
      obtain ⟨x, _, hy⟩ := List.exists_of_findSome?_eq_some hf
      split at hy
      · cases hy; rfl
      · simp at hy
  rcases hloop with e | e
  · simp only [e, bnd_s, elim_inl, Texts_ok l hl, Indent_ok l hl hx, rIndent_ok l hl hx, beq_self_eq_true, cnd_t, TextsStay_ok l hl]
  · simp only [e, bnd_s, elim_inr]
theorem BlockClean_ok (raw : Str) : seinelaw2_BlockClean raw = some true := by
  apply seinelaw2_BlockClean_run
  simp only [seinelaw2_BlockClean_B, seinelaw2_awake_ok, bnd_s]
  rcases long3 (s := raw) with h | ⟨h, hl⟩
  · rw [h]; rfl
  have hv := value_len raw
  have hloop : tloop (seinelaw2_BlockClean_l1T (value raw)) 0 = some (.inl () : Unit ⊕ Unit) :=
    loop_all (b := seinelaw2_BlockClean_l1T (value raw)) (value raw) _ (by unfold Sm; omega) (by simp only [seinelaw2_BlockClean_l1T, end_lt, cnd_f])
      (fun k c hm h1 h2 h3 => by
        have : (c == 13) = false := by simpa using value_no13 raw c hm
        simp only [seinelaw2_BlockClean_l1T, h1, cnd_t, h2, bnd_s, u13, this, cnd_f, h3])
  simp only [h, cnd_f, Value_ok raw (by omega), bnd_s, hloop, elim_inl, Lines_ok (value raw) (by omega)]
  have d0 : ((List.length (lns (value raw)) : Int) == 0) = false := by
    have := lns_ne (value raw)
    have : (lns (value raw)).length ≠ 0 := fun e => this (List.length_eq_zero_iff.1 e)
    simp; exact fun e => lns_ne _ e
  have d1 : decide ((List.length (value raw) : Int) > (List.length raw : Int)) = false := by simp; omega
  simp only [d0, d1, cnd_f]
  by_cases hm : says (lns raw) = []
  · have : value raw = [] := by unfold value; rw [hm, joinS_nil]
    rw [this]; rfl
  · have hlns : lns (value raw) = says (lns raw) := lns_join _ hm (says_noEol raw)
    have hw := wt_says (lns raw)
    have hw2 := wt_lns raw
    have ok := Ok.of_wt (show wt (says (lns raw)) ≤ 1073741824 by omega)
    obtain ⟨x, hx⟩ : ∃ x, (says (lns raw)).head? = some x := by
      cases hs : says (lns raw) with
      | nil => exact absurd hs hm
      | cons x r => exact ⟨x, rfl⟩
    have hbx : bare x = false := by
      obtain ⟨r, hr⟩ := trimB_pre _ (trimF (shiftL (indent (lns raw)).toNat (lns raw))) (Nat.le_refl _)
      apply trimF_head (l := shiftL (indent (lns raw)).toNat (lns raw))
      rw [hr, List.head?_append]
      show (says (lns raw)).head?.or _ = _
      rw [hx]; rfl
    obtain ⟨z, hz⟩ : ∃ z, (says (lns raw)).getLast? = some z := by
      cases hs : (says (lns raw)).getLast? with
      | none => exact absurd (List.getLast?_eq_none_iff.1 hs) hm
      | some z => exact ⟨z, rfl⟩
    have hbz : bare z = false := trimB_last hz
    have e1 : nthI (says (lns raw)) 0 = some x := by
      have : nthI (says (lns raw)) ((0 : Nat) : Int) = some x := by rw [nthI_nat, ← List.head?_eq_getElem?]; exact hx
      exact this
    have hpos : 0 < (says (lns raw)).length := List.length_pos_iff.2 hm
    have w : IntKind.wrap .i64 ((List.length (says (lns raw)) : Int) - 1) = (((says (lns raw)).length - 1 : Nat) : Int) := by
      have := ok.1
      rw [wi (by omega)]; omega
    have e2 : nthI (says (lns raw)) (((says (lns raw)).length - 1 : Nat) : Int) = some z := by rw [nthI_nat, ← List.getLast?_eq_getElem?]; exact hz
    rw [hlns, e1, bnd_s, lblank_ok x (ok.2 x (List.mem_of_mem_head? hx)), bnd_s, hbx, w, e2]
    have hzm : z ∈ says (lns raw) := List.mem_of_getLast? hz
    simp only [Bool.not_false, cnd_t, bnd_s, lblank_ok z (ok.2 z hzm), hbz, cnd_same]
end Go.Proofs.Ytlaomadhhdcflaa

/-
  Layer 2: lines and the text; lines moved further in.
-/
set_option linter.unusedVariables false
set_option linter.unusedSimpArgs false
open Go Go.Ev
namespace Go.Proofs.Ytlaomadhhdcflaa

theorem lns_single {x : Str} (h : (lns x).length = 1) : noEol x := by
  obtain ⟨y, rest, hx, hy, h2⟩ := lns_step x
  rcases h2 with ⟨rfl, _⟩ | ⟨r, h2, _⟩
  · rw [hx, List.append_nil]; exact hy
  · rw [h2] at h
    simp at h
    exact absurd h (lns_ne r)
theorem noEol_loop (l : List Str) (k : Int) (x : Str) (hk : nthI l k = some x) (hx : noEol x) (hl : x.length ≤ 1073741824) : tloop (seinelaw2_BlockLines_l1T l k) 0 = some (.inl () : Unit ⊕ Unit) :=
  loop_all (b := seinelaw2_BlockLines_l1T l k) x _ (by unfold Sm; omega) (by simp only [seinelaw2_BlockLines_l1T, hk, bnd_s, end_lt, cnd_f])
    (fun j c hm h1 h2 h3 => by
      have b10 : (c == 10) = false := by simpa using (hx c hm).1
      have b13 : (c == 13) = false := by simpa using (hx c hm).2
      simp only [seinelaw2_BlockLines_l1T, hk, bnd_s, h1, cnd_t, h2, u10, u13, b10, b13, cnd_f, h3])
theorem lines_walk (s : Str) (hs : s.length ≤ 1073741000) (l : List Str) (hl : l.length ≤ 1073741824) : ∀ (n i k : Nat), l.length - k ≤ n → i ≤ s.length → k < l.length → lns (s.drop i) = l.drop k →
    tloop (seinelaw2_BlockLines_l2T s l) ((i : Int), (k : Int)) = some (.inl (s.length : Int) : Int ⊕ Unit) := by
  intro n
  induction n with
  | zero => intro i k h1 h2 h3; omega
  | succ n ih =>
    intro i k h1 h2 h3 h4
    obtain ⟨x, rest, hsx, hx, h5⟩ := lns_step (s.drop i)
    have hlen : s.length - i = x.length + rest.length := by
      have := congrArg List.length hsx
      simpa only [List.length_drop, List.length_append] using this
    have hd : ∃ q, l.drop k = x :: q ∧ ((rest = [] ∧ q = []) ∨ ∃ r, q = lns r ∧ (rest = 10 :: r ∨ rest = 13 :: 10 :: r ∨ (rest = 13 :: r ∧ r.head? ≠ some 10))) := by
      rw [← h4]
      rcases h5 with ⟨e1, e2⟩ | ⟨r, e1, e2⟩
      · exact ⟨[], e2, .inl ⟨e1, rfl⟩⟩
      · exact ⟨lns r, e1, .inr ⟨r, rfl, e2⟩⟩
    obtain ⟨q, hq, h6⟩ := hd
    have hk : l[k]? = some x := by
      have := congrArg List.head? hq
      rw [List.head?_drop] at this; exact this
    have hq1 : l.drop (k + 1) = q := by
      have := drop_cons hk
      rw [hq] at this
      exact (List.cons.inj this).2.symm
    have e1 : nthI l (k : Int) = some x := by rw [nthI_nat]; exact hk
    have d1 : decide ((k : Int) < (l.length : Int)) = true := ltT h3
    have w1 : IntKind.wrap .i64 ((List.length s : Int) - (i : Int)) = ((s.length - i : Nat) : Int) := by rw [wi (by omega)]; omega
    have w2 : IntKind.wrap .i64 ((i : Int) + (x.length : Int)) = ((i + x.length : Nat) : Int) := by rw [wi (by omega)]; omega
    have w3 : IntKind.wrap .i64 ((List.length l : Int) - 1) = ((l.length - 1 : Nat) : Int) := by rw [wi (by omega)]; omega
    have d2 : decide ((x.length : Int) > ((s.length - i : Nat) : Int)) = false := by simp; omega
    have tc : tslc s (i : Int) ((i + x.length : Nat) : Int) = some x := by
      rw [tslc_cut (by omega) (by omega)]
      unfold cut
      rw [List.drop_take, hsx, show i + x.length - i = x.length by omega]; simp
    have w4 : IntKind.wrap .i64 ((k : Int) + 1) = ((k + 1 : Nat) : Int) := wadd (by omega)
    have hql : q.length = l.length - (k + 1) := by rw [← hq1, List.length_drop]
    have loop := noEol_loop l (k : Int) x e1 hx (by omega)
    rcases h6 with ⟨rfl, rfl⟩ | ⟨r, rfl, h6⟩
    · -- the last line
      have hk1 : k = l.length - 1 := by simp at hql; omega
      have d3 : ((k : Int) == ((l.length - 1 : Nat) : Int)) = true := by rw [hk1]; simp
      refine tloop_exit ?_
      simp only [seinelaw2_BlockLines_l2T, d1, cnd_t, loop, bnd_s, elim_inl, e1, w1, d2, cnd_f, w2, tc, beq_self_eq_true, Bool.not_true, w3, d3]
      have : i + x.length = s.length := by simp at hlen; omega
      rw [this]
    · have hrne := lns_ne r
      have hrl : 0 < (lns r).length := List.length_pos_iff.2 hrne
      have d3 : ((k : Int) == ((l.length - 1 : Nat) : Int)) = false := by simp; omega
      have hrest : 1 ≤ rest.length := by rcases h6 with rfl | rfl | ⟨rfl, _⟩ <;> simp
      have d4 : decide (((i + x.length : Nat) : Int) ≥ (List.length s : Int)) = false := by simp; omega
      have dr : s.drop (i + x.length) = rest := by
        rw [← List.drop_drop, hsx]; simp
      have get : ∀ j, s[i + x.length + j]? = rest[j]? := by
        intro j; rw [← dr, List.getElem?_drop]
      have w5 : IntKind.wrap .i64 (((i + x.length : Nat) : Int) + 1) = ((i + x.length + 1 : Nat) : Int) := wadd (by omega)
      have w6 : IntKind.wrap .i64 (((i + x.length + 1 : Nat) : Int) + 1) = ((i + x.length + 2 : Nat) : Int) := wadd (by omega)
      have g0 := get 0
      rw [Nat.add_zero] at g0
      have nx : ∀ i', i' ≤ s.length → s.drop i' = r → seinelaw2_BlockLines_l2T s l ((i : Int), (k : Int)) = some (.inl ((i' : Int), ((k + 1 : Nat) : Int))) → tloop (seinelaw2_BlockLines_l2T s l) ((i : Int), (k : Int)) = some (.inl (s.length : Int) : Int ⊕ Unit) := by
        intro i' hi' hr hst
        rw [tloop_next hst]
        exact ih i' (k + 1) (by omega) hi' (by omega) (by rw [hr, hq1])
      rcases h6 with rfl | rfl | ⟨rfl, hh⟩
      · have e2 : nthI s ((i + x.length : Nat) : Int) = some 10 := by rw [nthI_nat, g0]; rfl
        refine nx (i + x.length + 1) (by simp at hlen; omega) (by rw [← List.drop_drop, dr]; rfl) ?_
        simp only [seinelaw2_BlockLines_l2T, d1, cnd_t, loop, bnd_s, elim_inl, e1, w1, d2, cnd_f, w2, tc, beq_self_eq_true, Bool.not_true, w3, d3, d4, e2, bne, u10, u13, w5, w4]
        rfl
      · have g1 := get 1
        have e2 : nthI s ((i + x.length : Nat) : Int) = some 13 := by rw [nthI_nat, g0]; rfl
        have e3 : nthI s ((i + x.length + 1 : Nat) : Int) = some 10 := by rw [nthI_nat, g1]; rfl
        have d5 : decide (((i + x.length + 1 : Nat) : Int) < (List.length s : Int)) = true := ltT (by simp at hlen; omega)
        refine nx (i + x.length + 2) (by simp at hlen; omega) (by rw [← List.drop_drop, dr]; rfl) ?_
        simp only [seinelaw2_BlockLines_l2T, d1, cnd_t, loop, bnd_s, elim_inl, e1, w1, d2, cnd_f, w2, tc, beq_self_eq_true, Bool.not_true, w3, d3, d4, e2, bne, u10, u13, w5, d5, e3, w6, w4]
        rfl
      · have g1 := get 1
        have e2 : nthI s ((i + x.length : Nat) : Int) = some 13 := by rw [nthI_nat, g0]; rfl
        refine nx (i + x.length + 1) (by simp at hlen; omega) (by rw [← List.drop_drop, dr]; rfl) ?_
        cases r with
        | nil =>
          have d5 : decide (((i + x.length + 1 : Nat) : Int) < (List.length s : Int)) = false := ltF (by simp at hlen; omega)
          simp only [seinelaw2_BlockLines_l2T, d1, cnd_t, loop, bnd_s, elim_inl, e1, w1, d2, cnd_f, w2, tc, beq_self_eq_true, Bool.not_true, w3, d3, d4, e2, bne, u10, u13, w5, d5, w4]
          rfl
        | cons d r' =>
          have e3 : nthI s ((i + x.length + 1 : Nat) : Int) = some d := by rw [nthI_nat, g1]; rfl
          have d5 : decide (((i + x.length + 1 : Nat) : Int) < (List.length s : Int)) = true := ltT (by simp at hlen; omega)
          have dne : (d == 10) = false := by simpa using hh
          simp only [seinelaw2_BlockLines_l2T, d1, cnd_t, loop, bnd_s, elim_inl, e1, w1, d2, cnd_f, w2, tc, beq_self_eq_true, Bool.not_true, w3, d3, d4, e2, bne, u10, u13, w5, d5, e3, dne, w4]
          rfl
theorem BlockLines_ok (s : Str) : seinelaw2_BlockLines s = some true := by
  apply seinelaw2_BlockLines_run
  simp only [seinelaw2_BlockLines_B, seinelaw2_awake_ok, bnd_s]
  rcases long3 (s := s) with h | ⟨h, hl⟩
  · rw [h]; rfl
  have hw := wt_lns s
  have hlen := wt_len (lns s)
  have hpos : 0 < (lns s).length := List.length_pos_iff.2 (lns_ne s)
  have lp := lines_walk s (by omega) (lns s) (by omega) (lns s).length 0 0 (by omega) (by omega) hpos (by simp)
  have d : decide ((List.length (lns s) : Int) > 0) = true := decide_eq_true (by omega)
  simp only [h, cnd_f, Lines_ok s (by omega), bnd_s]
  rw [show tloop (seinelaw2_BlockLines_l2T s (lns s)) (0, 0) = _ from lp]
  simp only [bnd_s, elim_inl, d, cnd_t, beq_self_eq_true]
/-! moved further in -/
theorem gap_loop (n : Nat) (hn : n ≤ 20) : ∀ (k i : Nat), n - i ≤ k → i ≤ n → tloop (seinelaw2_BlockShifts_l1T (n : Int)) (List.replicate i 32, (i : Int)) = some (List.replicate n 32) := by
  intro k
  induction k with
  | zero =>
    intro i h1 h2
    have : i = n := by omega
    subst this
    exact tloop_exit (by simp only [seinelaw2_BlockShifts_l1T, end_lt, cnd_f])
  | succ k ih =>
    intro i h1 h2
    by_cases hi : i = n
    · subst hi; exact tloop_exit (by simp only [seinelaw2_BlockShifts_l1T, end_lt, cnd_f])
    have st : seinelaw2_BlockShifts_l1T (n : Int) (List.replicate i 32, (i : Int)) = some (.inl (List.replicate (i + 1) 32, ((i + 1 : Nat) : Int))) := by
      simp only [seinelaw2_BlockShifts_l1T, ltT (show i < n by omega), cnd_t]
      rw [tapp_ok (by rw [lim_val]; simp; omega), bnd_s, wadd (by omega), List.replicate_succ']
    rw [tloop_next st]
    exact ih (i + 1) (by omega) (by omega)
def put (g : Str) (l : List Str) : Str := l.flatMap fun x => 10 :: (g ++ x)
theorem put_snoc (g : Str) (l : List Str) (x : Str) : put g (l ++ [x]) = put g l ++ (10 :: (g ++ x)) := by simp [put]
theorem put_len (g : Str) (b : Nat) : ∀ (l : List Str), (∀ x ∈ l, x.length ≤ b) → (put g l).length ≤ l.length * (1 + g.length + b)
  | [], _ => by simp [put]
  | x :: l, h => by
    have h1 := put_len g b l fun y hy => h y (by simp [hy])
    have h2 := h x (by simp)
    have : put g (x :: l) = (10 :: (g ++ x)) ++ put g l := by simp [put]
    rw [this, List.length_append, List.length_cons, List.length_append, List.length_cons, Nat.add_mul]; omega
theorem lns_put (g : Str) (hg : noEol g) : ∀ (l : List Str) (p : Str), (∀ x ∈ l, noEol x) → lnsA p (put g l) = p :: l.map (g ++ ·)
  | [], p, _ => by simp [put, lnsA_nil]
  | x :: l, p, h => by
    have : put g (x :: l) = 10 :: ((g ++ x) ++ put g l) := by simp [put]
    rw [this, lnsA_10, lnsA_front [] (g ++ x) _ (by
      intro c hc
      rcases List.mem_append.1 hc with hc | hc
      · exact hg c hc
      · exact h x (by simp) c hc), List.nil_append, lns_put g hg l _ fun y hy => h y (by simp [hy])]
    rfl
theorem put_loop (l : List Str) (g : Str) (hl : l.length ≤ 100) (hg : g.length ≤ 20) : ∃ r, tloop (seinelaw2_BlockShifts_l2T l g) ([], [], 0) = some r ∧
    (r = .inr true ∨ (r = .inl (put [] l, put g l) ∧ ∀ x ∈ l, noEol x ∧ x.length ≤ 100)) := by
  have := tloop_inv (b := seinelaw2_BlockShifts_l2T l g) (fun s => ∃ k : Nat, s = (put [] (l.take k), put g (l.take k), (k : Int)) ∧ k ≤ l.length ∧ ∀ x ∈ l.take k, noEol x ∧ x.length ≤ 100) (fun s => l.length - s.2.2.toNat)
    (fun r => r = .inr true ∨ (r = .inl (put [] l, put g l) ∧ ∀ x ∈ l, noEol x ∧ x.length ≤ 100)) (by
    rintro s ⟨k, rfl, hk, hin⟩
    by_cases hkl : k = l.length
    · left
      subst hkl
      refine ⟨.inl (put [] l, put g l), ?_, .inr ⟨rfl, ?_⟩⟩
      · simp only [seinelaw2_BlockShifts_l2T, end_lt, cnd_f, List.take_length]
      · rw [List.take_length] at hin; exact hin
    have hlt : k < l.length := by omega
    obtain ⟨x, hx⟩ : ∃ x, l[k]? = some x := ⟨_, List.getElem?_eq_getElem hlt⟩
    have e1 : nthI l (k : Int) = some x := by rw [nthI_nat]; exact hx
    have w : IntKind.wrap .i64 ((k : Int) + 1) = ((k + 1 : Nat) : Int) := wadd (by omega)
    by_cases hx1 : (x.length : Int) > 100
    · left
      refine ⟨.inr true, ?_, .inl rfl⟩
      simp only [seinelaw2_BlockShifts_l2T, ltT hlt, cnd_t, e1, bnd_s, hx1, decide_true, seinelaw2_awake_ok]
    have hl1 := Lines_ok x (by omega)
    by_cases hx2 : (lns x).length = 1
    · right
      have hno := lns_single hx2
      have d : ((List.length (lns x) : Int) != 1) = false := by rw [hx2]; rfl
      have ht : l.take (k + 1) = l.take k ++ [x] := by rw [List.take_add_one, hx]; rfl
      have b1 := put_len [] 100 (l.take k) fun y hy => (hin y hy).2
      have b2 := put_len g 100 (l.take k) fun y hy => (hin y hy).2
      have hkk : (l.take k).length = k := by simp; omega
      rw [hkk] at b1 b2
      simp only [List.length_nil] at b1
      have b3 : (put [] (l.take k)).length ≤ 100 * 121 := Nat.le_trans b1 (Nat.mul_le_mul (by omega) (by omega))
      have b4 : (put g (l.take k)).length ≤ 100 * 121 := Nat.le_trans b2 (Nat.mul_le_mul (by omega) (by omega))
      refine ⟨(put [] (l.take (k + 1)), put g (l.take (k + 1)), ((k + 1 : Nat) : Int)), ?_, ⟨k + 1, rfl, by omega, ?_⟩, ?_⟩
      · have t1 : tapp (put [] (l.take k)) ([10] : Str) = some (put [] (l.take k) ++ [10]) := tapp_ok (by rw [lim_val, List.length_singleton]; omega)
        have t2 : tapp (put [] (l.take k) ++ [10]) x = some (put [] (l.take k) ++ [10] ++ x) := tapp_ok (by rw [lim_val, List.length_append, List.length_singleton]; omega)
        have t3 : tapp (put g (l.take k)) ([10] : Str) = some (put g (l.take k) ++ [10]) := tapp_ok (by rw [lim_val, List.length_singleton]; omega)
        have t4 : tapp (put g (l.take k) ++ [10]) g = some (put g (l.take k) ++ [10] ++ g) := tapp_ok (by rw [lim_val, List.length_append, List.length_singleton]; omega)
        have t5 : tapp (put g (l.take k) ++ [10] ++ g) x = some (put g (l.take k) ++ [10] ++ g ++ x) := tapp_ok (by rw [lim_val, List.length_append, List.length_append, List.length_singleton]; omega)
        simp only [seinelaw2_BlockShifts_l2T, ltT hlt, cnd_t, e1, bnd_s, hx1, decide_false, cnd_f, hl1, d, t1, t2, t3, t4, t5, w]
        rw [ht, put_snoc, put_snoc]
        simp
      · rw [ht]
        intro y hy
        rcases List.mem_append.1 hy with hy | hy
        · exact hin y hy
        · have : y = x := by simpa using hy
          subst this; exact ⟨hno, by omega⟩
      · simp only [Int.toNat_natCast]; omega
    · left
      have d : ((List.length (lns x) : Int) != 1) = true := by simp; omega
      refine ⟨.inr true, ?_, .inl rfl⟩
      simp only [seinelaw2_BlockShifts_l2T, ltT hlt, cnd_t, e1, bnd_s, hx1, decide_false, cnd_f, hl1, d, seinelaw2_awake_ok]) ([], [], 0) ⟨0, by simp [put], by omega, by simp⟩
  exact this
theorem BlockShifts_ok (l : List Str) (n : Int) : seinelaw2_BlockShifts l n = some true := by
  apply seinelaw2_BlockShifts_run
  simp only [seinelaw2_BlockShifts_B, seinelaw2_awake_ok, bnd_s]
  by_cases h : (l.length : Int) > 100
  · simp only [h, decide_true, cnd_t]
  by_cases h1 : n < 0
  · simp only [h, h1, decide_true, decide_false, cnd_t, cnd_f]
  by_cases h2 : n > 20
  · simp only [h, h1, h2, decide_true, decide_false, cnd_t, cnd_f]
  simp only [h, h1, h2, decide_false, cnd_f]
  obtain ⟨k, rfl⟩ := Int.eq_ofNat_of_zero_le (show 0 ≤ n by omega)
  have gl := gap_loop k (by omega) k 0 (by omega) (by omega)
  rw [show tloop (seinelaw2_BlockShifts_l1T (k : Int)) ([], 0) = _ from gl, bnd_s]
  obtain ⟨r, hr, h3⟩ := put_loop l (List.replicate k 32) (by omega) (by simp; omega)
  rw [hr, bnd_s]
  rcases h3 with rfl | ⟨rfl, h3⟩
  · simp only [elim_inr]
  · simp only [elim_inl]
    have b1 := put_len [] 100 l fun y hy => (h3 y hy).2
    have b2 := put_len (List.replicate k 32) 100 l fun y hy => (h3 y hy).2
    simp only [List.length_nil, List.length_replicate] at b1 b2
    have b3 : (put [] l).length ≤ 100 * 121 := Nat.le_trans b1 (Nat.mul_le_mul (by omega) (by omega))
    have b4 : (put (List.replicate k 32) l).length ≤ 100 * 121 := Nat.le_trans b2 (Nat.mul_le_mul (by omega) (by omega))
    rw [Value_ok _ (by omega), Value_ok _ (by omega), bnd_s, bnd_s]
    have hb : bare (List.replicate k 32) = true := by
      unfold bare; rw [List.all_eq_true]; intro c hc; rw [(List.mem_replicate.1 hc).2]; rfl
    have hno : noEol (List.replicate k 32) := by
      intro c hc; rw [(List.mem_replicate.1 hc).2]; decide
    have e : value (put [] l) = value (put (List.replicate k 32) l) := by
      unfold value lns
      rw [lns_put [] (by intro c hc; simp at hc) l [] (fun x hx => (h3 x hx).1), lns_put _ hno l [] (fun x hx => (h3 x hx).1), ← says_gap hb]
      simp
    rw [e]
    simp only [beq_self_eq_true, cnd_t]
end Go.Proofs.Ytlaomadhhdcflaa

/-
  Layer 2: what the row's bulk says of lists of texts.
-/
set_option linter.unusedVariables false
set_option linter.unusedSimpArgs false
open Go Go.Ev
namespace Go.Proofs.Ytlaomadhhdcflaa
theorem texts_small {l : List Str} (h : bkSl bkStr l + 0 ≤ 1048576) : ∀ x ∈ l, x.length ≤ 1073741824 := by
  intro x hx
  have h1 := sl_mem (f := bkStr) hx
  have h2 : x.length ≤ bkStr x := by unfold bkStr; omega
  omega
end Go.Proofs.Ytlaomadhhdcflaa

/-
  What is asked of the program as a whole.
-/
set_option linter.unusedVariables false
open Go Go.Ev
open Go.ChangeShapes Go.WideShapes Go.ChangeAt Go.RowKit
namespace Go.Proofs.Ytlaomadhhdcflaa
theorem mixed : Try.prog.follows .mixedOrders = true := by kernel_rfl
theorem names : (Try.prog.funcs.toList.all fun fn => !fn.body.isSome || !(fn.name == "runtime.NumGoroutine")) = true := by kernel_rfl
theorem laid : laidOutB Try.prog = true := by kernel_rfl
theorem pok : POk Try.prog := by
  refine ⟨mixed, fun f fn hf hb => ?_⟩
  have hm : fn ∈ Try.prog.funcs.toList := by
    have := Array.mem_of_getElem? hf
    simpa using this
  have := List.all_eq_true.1 names fn hm
  rw [hb] at this
  simpa using this
theorem blOk {H : Type} : BlOk (H := H) Rows.uptoBulk Rows.uptoBulkAll := by
  refine ⟨fun l => ?_, fun s => ?_, ?_, fun es sp => ?_, fun ps => ?_, fun d r => ?_⟩
  · cases l <;> simp [Rows.uptoBulk]
  · simp [Rows.uptoBulk]
  · simp [Rows.uptoBulk]
  · simp only [Rows.uptoBulk]; omega
  · simp only [Rows.uptoBulk]; omega
  · simp [Rows.uptoBulkAll]
theorem own : ownKnob Try.prog.godebug = none := by kernel_rfl
end Go.Proofs.Ytlaomadhhdcflaa

/-
  BlockSays: of any raw text: its lines, how far they stand in, and what it says, are the page's. Conditions: none beside the row's own (bulk at most 1048576).
-/
set_option linter.unusedVariables false
open Go Go.Ev
open Go.ChangeShapes Go.WideShapes Go.ChangeAt Go.RowKit
namespace Go.Proofs.Ytlaomadhhdcflaa
namespace blockSays
def fs : Ty := (.fcons .str .fnil)
theorem lawF : ∀ x : fs.den RS, good RS fs x → bulkL RS fs x ≤ 1048576 → OL Try.prog MT XT 3 (encL RS fs x) [] = some (.bool true, []) := by
  rintro ⟨x0, _⟩ g b
  have b' : bkStr x0 + (0) ≤ 1048576 := b
  obtain ⟨g0, _⟩ := g
  have g0' : gd1 x0 := g0
  have e : encL RS fs (x0, ()) = [PV.str x0] := rfl
  rw [e]
  change O 3 _ _ = _
  have h := seinelaw2_BlockSays_spec (BlockSays_ok x0)
  simpa only [tys, seinelaw2_BlockSaysE] using h
set_option maxRecDepth 100000 in
theorem contract (H : Type) (enc : TypeId × Value → H) (W : World) (base : Nat) (args : Array Value) (ds gs : List (DataW H)) (before : List MemPlace)
    (hval : ∀ (j : Nat) t v, Try.f3.params[j]? = some t → args[j]? = some v → Value.okWide Try.prog W .any base t v)
    (hW : DataW.Whole enc Try.prog Try.f3.params.toList Rows.blockSaysSpec.vars false W args.toList ds gs before) (hk : Rows.uptoSmall H (ds ++ gs) = true) :
    Calls Try.prog 3 args W fun e W' => ∃ v, e = .returned v ∧ Rows.blockSaysSpec.post enc Try.prog Try.f3 false true false false W args v W' := by
  have hg : gs = [] := by
    obtain ⟨p, q, hA, hV, _⟩ := hW
    exact (trodVars_none hV).1
  have hb : Rows.uptoBulkAll ds ≤ 1048576 := by
    have := of_decide_eq_true hk
    simpa [hg] using this
  have hlen : ds.length = 1 := by
    obtain ⟨p, q, hA0, hV, _⟩ := hW
    have hA : DataW.TrodAll enc Try.prog W 0 (fun _ => true) true Try.f3.params.toList args.toList ds p := hA0
    rw [Try.params3] at hA
    obtain ⟨v0, vs0, d0, ds0, p0, q0, h0, rfl, rfl, ht0, r0⟩ := trodAll_cons hA
    obtain ⟨rfl, rfl, rfl⟩ := trodAll_nil r0
    rfl
  refine contract_true pok xok laid blOk Try.func3 rfl (n := 9) (ρ := RS) (τ := TS) (fs := fs) (tb := 4) (by kernel_rfl) (by rw [show Try.f3.resultTypes = #[4] from rfl]) Try.underlying4 rfl (rok enc W blOk) ?_ hval hW hb lawF
  subst hg
  match ds, hlen with
  | [d0], _ => exact ⟨rfl, rfl, rfl⟩
set_option maxRecDepth 100000 in
theorem lifted (os : Os) (started : os.Started) (H : Type) (enc : TypeId × Value → H) (F : Stop.Interp) :
    ReturnsInHanded {} Try.checked os 3 .any ((Rows.OpenSpec.upto Rows.blockSaysSpec).pre6 enc Try.prog Try.f3 Rows.blockSaysUptoRow.domain false) (((Rows.OpenSpec.upto Rows.blockSaysSpec).at F).post enc Try.prog Try.f3 false true false false) := by
  refine returnsInHanded_of_cond (C := Try.checked) (s := Rows.OpenSpec.upto Rows.blockSaysSpec) (k := Rows.uptoSmall) rfl own started (by kernel_rfl) Try.func3
    (OpenSpec.witness (enc := enc) (C := Try.checked) (s := Rows.OpenSpec.upto Rows.blockSaysSpec) (k := Rows.uptoSmall) rfl false ⟨#[], #[.string ⟨#[]⟩], []⟩ 8 (by kernel_rfl) (by kernel_rfl) (by kernel_rfl)
      (x := ([.lit (.string [])], [], [])) (by kernel_rfl) rfl (by kernel_rfl)) ?_
  intro W base args ds gs before hval hW _ hk _
  exact contract H enc W base args ds gs before hval hW hk
theorem over : Rows.blockSaysUptoRow.holds Try.pinned (Rows.OpenSpec.upto Rows.blockSaysSpec) :=
  OpenClaim.holds_of_cond 3 Try.f3 rfl rfl rfl rfl rfl rfl rfl ⟨rfl, rfl, rfl, rfl, rfl⟩ rfl rfl rfl rfl rfl (by kernel_rfl) Try.func3 (by kernel_rfl)
    (of_decide_eq_true (by kernel_rfl)) (by unfold Func.isWrapper; first | (rw [if_pos (by decide +kernel)]; kernel_rfl) | (rw [if_neg (by decide +kernel)]; exact ⟨rfl, rfl⟩))
    (fun os started H enc _ F => lifted os started H enc F)
theorem proved : Rows.BlockSaysUptoSaid :=
  over
end blockSays
end Go.Proofs.Ytlaomadhhdcflaa
