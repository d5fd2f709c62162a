/-
  A region that draws its order: loads may be taken first where their cells are written by none but the operations that wait for them.
-/
import Derived.OrdersHeld
import Derived.Deep.RegionHeld3
import Derived.Deep.RegionLaw
import Derived.KernelRfl
import Derived.WalkKit
set_option linter.unusedVariables false
namespace Go.Ev
section
variable {P : Program} {ops : Array Oper} {Q : Exit → Act → World → Prop} {md : Region.Mode} {S T : World → Prop} {b : Nat → Bool}
/-- In whatever order; behind each operation that b does not name the condition stands. -/
def wpB (P : Program) (md : Region.Mode) (ops : Array Oper) (Q : Exit → Act → World → Prop) (S : World → Prop) (b : Nat → Bool) : Nat → Array Bool → Act → World → Prop
  | 0, l, a, w => Region.ready md ops l = [] ∧ Q .normal a w
  | n + 1, l, a, w => (Region.ready md ops l = [] → Q .normal a w) ∧ ∀ i ∈ Region.ready md ops l, wpOp P ops Q i (fun a' w' => (b i = false → S w') ∧ wpB P md ops Q S b n (l.setIfInBounds i true) a' w') a w
theorem wpB_any : ∀ (n : Nat) (l : Array Bool) (a : Act) (w : World), wpB P md ops Q S b n l a w → wpAny P md ops Q n l a w
  | 0, _, _, _, h => h
  | n + 1, _, _, _, h => ⟨h.1, fun i hi => wpOp_mono (fun a' w' k => wpB_any n _ a' w' k.2) (h.2 i hi)⟩
def waits (md : Region.Mode) (ops : Array Oper) (i j : Nat) : Bool := match ops[j]? with | some o => o.after.any (fun e => Region.binds md e && e.on == i) | none => true
def Behind (md : Region.Mode) (ops : Array Oper) (b : Nat → Bool) (i : Nat) : Bool := (List.range ops.size).all fun j => !b j || waits md ops i j
theorem behind_spec {i j : Nat} (h : Behind md ops b i = true) {o : Oper} (ho : ops[j]? = some o) (hj : b j = true) : ∃ e ∈ o.after, Region.binds md e = true ∧ e.on = i := by
  have h1 := List.all_eq_true.1 h j (List.mem_range.2 (Array.getElem?_eq_some_iff.1 ho).1)
  rw [hj] at h1
  simp only [Bool.not_true, Bool.false_or, waits, ho] at h1
  obtain ⟨e, he, h2⟩ := Array.any_eq_true'.1 h1
  rw [Bool.and_eq_true, beq_iff_eq] at h2
  exact ⟨e, he, h2.1, h2.2⟩
theorem listed_not {l : Array Bool} {i : Nat} (h0 : l.getD i true = false) (h1 : l.getD i false = true) : False := by
  rcases Nat.lt_or_ge i l.size with h' | h'
  · simp [h'] at h0 h1; rw [h0] at h1; cases h1
  · simp [Array.getElem?_eq_none h'] at h1
theorem wpB_first {i : Nat} {oi : Oper} {v : Value} (hi : ops[i]? = some oi) (hsel : ∀ (j : Nat) (o : Oper) cs d, ops[j]? = some o → o.op ≠ .select cs d) (hQ : ∀ c a w, Q (.panic c) (a.put oi.dst v) w → Q (.panic c) a w)
    (hb : Behind md ops b i = true) : ∀ (n : Nat) (l : Array Bool) (a : Act) (w : World),
      (∀ j oj, ops[j]? = some oj → j ≠ i → l.getD j true = false → (∀ e ∈ oj.after, Region.binds md e = true → e.on ≠ i) → oi.apart ops oj = true) →
      i ∈ Region.ready md ops l → YieldsIf P ops S oi v a → S w → wpB P md ops Q S b n (l.setIfInBounds i true) (a.put oi.dst v) w → wpB P md ops Q S b (n + 1) l a w := by
  intro n
  induction n with
  | zero =>
    intro l a w hfree hr hy hSw H
    refine ⟨fun h => (by rw [h] at hr; cases hr), fun j hj => ?_⟩
    by_cases e : j = i
    · subst e; exact hy.wpOp hi hSw ⟨fun _ => hSw, H⟩
    · have h0 := ready_mono hj e
      rw [H.1] at h0; cases h0
  | succ n ih =>
    intro l a w hfree hr hy hSw H
    refine ⟨fun h => (by rw [h] at hr; cases hr), fun j hj => ?_⟩
    by_cases e : j = i
    · subst e; exact hy.wpOp hi hSw ⟨fun _ => hSw, H⟩
    · obtain ⟨hju, oj, hoj, hall⟩ := mem_ready.1 hj
      have hno : ∀ e ∈ oj.after, Region.binds md e = true → e.on ≠ i := fun e' he hb' heq => listed_not (mem_ready.1 hr).1 (heq ▸ hall e' he hb')
      have hbj : b j = false := by
        cases hbj : b j with
        | false => rfl
        | true =>
          obtain ⟨e', he', h3, h4⟩ := behind_spec hb hoj hbj
          exact absurd h4 (hno e' he' h3)
      have h2 := wpOp_putIf hoj (hfree j oj hoj e hju hno) (fun cs d => hsel i oi cs d hi) (fun cs d => hsel j oj cs d hoj) hQ hy (H.2 j (ready_mono hj e))
      have hfree' : ∀ k ok, ops[k]? = some ok → k ≠ i → (l.setIfInBounds j true).getD k true = false → (∀ e ∈ ok.after, Region.binds md e = true → e.on ≠ i) → oi.apart ops ok = true := fun k ok hk hki hun hn => by
        refine hfree k ok hk hki ?_ hn
        by_cases hjk : j = k
        · subst hjk; exact hju
        · rwa [getD_set_ne true hjk] at hun
      refine wpOp_mono (fun a' w' h3 => ⟨h3.2.1, ih _ a' w' hfree' (ready_mono hr (Ne.symm e)) h3.1 (h3.2.1 hbj) ?_⟩) h2
      rw [Array.setIfInBounds_comm _ _ e]
      exact h3.2.2
theorem wpB_take (i : Nat) {oi : Oper} {v : Value} {n : Nat} {l : Array Bool} {a : Act} {w : World} (hy : YieldsIf P ops S oi v a) (hSw : S w) (hi : ops[i]? = some oi) (hs : Region.noSelect ops = true) (hf : Region.free md ops l i = true) (hr : (Region.ready md ops l).contains i = true) (hb : Behind md ops b i = true)
    (hQ : ∀ c a w, Q (.panic c) (a.put oi.dst v) w → Q (.panic c) a w) (h : wpB P md ops Q S b n (l.setIfInBounds i true) (a.put oi.dst v) w) : wpB P md ops Q S b (n + 1) l a w :=
  wpB_first hi (Region.noSelect_spec hs) hQ hb n l a w (Region.free_spec hi hf) (by simpa using hr) hy hSw h
theorem wpB_all {rs : List Nat} {n : Nat} {l : Array Bool} {a : Act} {w : World} (hr : Region.ready md ops l = rs) (hne : rs ≠ []) (h : ∀ i ∈ rs, wpOp P ops Q i (fun a' w' => (b i = false → S w') ∧ wpB P md ops Q S b n (l.setIfInBounds i true) a' w') a w) : wpB P md ops Q S b (n + 1) l a w :=
  ⟨fun h0 => absurd (hr ▸ h0) hne, hr ▸ h⟩
theorem wpB_one (i : Nat) {o : Oper} {n : Nat} {l : Array Bool} {a : Act} {w : World} (hr : Region.ready md ops l = [i]) (ho : ops[i]? = some o)
    (h : ∀ K : Act → World → Prop, Shut (∀ a w, S w → (S w → wpB P md ops Q S b n (l.setIfInBounds i true) a w) → K a w) → if Region.wanted o (yielded ops a.tmps) = true then Oper.wp P o a w K Q else K (a.put o.dst undef) w) : wpB P md ops Q S b (n + 1) l a w :=
  wpB_all hr (by simp) fun j hj => by
    rw [List.mem_singleton.1 hj]
    exact wpOp_step ho fun K hK => h K fun a w h1 h2 => hK a w ⟨fun _ => h1, h2 h1⟩
theorem wpB_last (i : Nat) {o : Oper} {n : Nat} {l : Array Bool} {a : Act} {w : World} (hr : Region.ready md ops l = [i]) (ho : ops[i]? = some o) (hb : b i = true)
    (h : ∀ K : Act → World → Prop, Shut (∀ a w, wpB P md ops Q S b n (l.setIfInBounds i true) a w → K a w) → if Region.wanted o (yielded ops a.tmps) = true then Oper.wp P o a w K Q else K (a.put o.dst undef) w) : wpB P md ops Q S b (n + 1) l a w :=
  wpB_all hr (by simp) fun j hj => by
    rw [List.mem_singleton.1 hj]
    exact wpOp_step ho fun K hK => h K fun a w h2 => hK a w ⟨fun e => (by rw [hb] at e; cases e), h2⟩
theorem wpB_two (i j : Nat) {o p : Oper} {n : Nat} {l : Array Bool} {a : Act} {w : World} (hr : Region.ready md ops l = [i, j]) (ho : ops[i]? = some o) (hp : ops[j]? = some p)
    (h : ∀ K : Act → World → Prop, Shut (∀ a w, S w → (S w → wpB P md ops Q S b n (l.setIfInBounds i true) a w) → K a w) → if Region.wanted o (yielded ops a.tmps) = true then Oper.wp P o a w K Q else K (a.put o.dst undef) w)
    (h' : ∀ K : Act → World → Prop, Shut (∀ a w, S w → (S w → wpB P md ops Q S b n (l.setIfInBounds j true) a w) → K a w) → if Region.wanted p (yielded ops a.tmps) = true then Oper.wp P p a w K Q else K (a.put p.dst undef) w) : wpB P md ops Q S b (n + 1) l a w :=
  wpB_all hr (by simp) fun k hk => by
    simp only [List.mem_cons, List.not_mem_nil, or_false] at hk
    rcases hk with rfl | rfl
    · exact wpOp_step ho fun K hK => h K fun a w h1 h2 => hK a w ⟨fun _ => h1, h2 h1⟩
    · exact wpOp_step hp fun K hK => h' K fun a w h1 h2 => hK a w ⟨fun _ => h1, h2 h1⟩
theorem wpB_cand (cand : List Nat) {n : Nat} {l : Array Bool} {a : Act} {w : World} (hr : (Region.ready md ops l).all (fun i => cand.contains i) = true) (hne : (Region.ready md ops l).isEmpty = false)
    (h : ∀ i ∈ cand, (Region.ready md ops l).contains i = true → wpOp P ops Q i (fun a' w' => (b i = false → S w') ∧ wpB P md ops Q S b n (l.setIfInBounds i true) a' w') a w) : wpB P md ops Q S b (n + 1) l a w :=
  ⟨fun h0 => (by rw [h0] at hne; cases hne), fun i hi => h i (by simpa using List.all_eq_true.1 hr i hi) (by simpa using hi)⟩
theorem wpOp_go {i : Nat} {o : Oper} {a : Act} {w : World} {K0 : Act → World → Prop} (ho : ops[i]? = some o) (h : ∀ K : Act → World → Prop, Shut (∀ a w, K0 a w → K a w) → if Region.wanted o (yielded ops a.tmps) = true then Oper.wp P o a w K Q else K (a.put o.dst undef) w) : wpOp P ops Q i K0 a w :=
  wpOp_step ho fun K hK => h K hK
theorem wpB_done {l : Array Bool} {a : Act} {w : World} (hr : Region.ready md ops l = []) (h : Q .normal a w) : ∀ n, wpB P md ops Q S b n l a w
  | 0 => ⟨hr, h⟩
  | n + 1 => ⟨fun _ => h, by rw [hr]; simp⟩
/-- The same, with all that is alike left to be found. -/
theorem tk (i : Nat) {oi : Oper} {v : Value} {n : Nat} {l : Array Bool} {a a' : Act} {w : World} (hSw : S w) (h : wpB P md ops Q S b n (l.setIfInBounds i true) a' w) (hi : ops[i]? = some oi := by rfl)
    (hy : YieldsIf P ops S oi v a := by exact Or.inl ⟨by rfl, by intro w' hS'; obtain ⟨q1, q2⟩ := hS'; go_simp; try with_reducible rfl⟩)
    (ha : a.put oi.dst v = a' := by first | (simp only [Act.put, List.setIfInBounds_toArray, List.set_cons_zero, List.set_cons_succ]; done) | (simp only [Act.put, List.setIfInBounds_toArray, List.set_cons_zero, List.set_cons_succ]; rfl) | rfl)
    (hs : Region.noSelect ops = true := by kernel_rfl) (hf : Region.free md ops l i = true := by kernel_rfl) (hr : (Region.ready md ops l).contains i = true := by kernel_rfl) (hb : Behind md ops b i = true := by kernel_rfl)
    (hQ : ∀ c a w, Q (.panic c) (a.put oi.dst v) w → Q (.panic c) a w := by exact fun _ _ _ h => h) : wpB P md ops Q S b (n + 1) l a w :=
  wpB_take i hy hSw hi hs hf hr hb hQ (by rw [ha]; exact h)
theorem on1 (i : Nat) {o : Oper} {n : Nat} {l : Array Bool} {a : Act} {w : World}
    (h : ∀ K : Act → World → Prop, Shut (∀ a w, S w → (S w → wpB P md ops Q S b n (l.setIfInBounds i true) a w) → K a w) → if Region.wanted o (yielded ops a.tmps) = true then Oper.wp P o a w K Q else K (a.put o.dst undef) w) (hr : Region.ready md ops l = [i] := by kernel_rfl) (ho : ops[i]? = some o := by rfl) : wpB P md ops Q S b (n + 1) l a w :=
  wpB_one i hr ho h
theorem onL (i : Nat) {o : Oper} {n : Nat} {l : Array Bool} {a : Act} {w : World}
    (h : ∀ K : Act → World → Prop, Shut (∀ a w, wpB P md ops Q S b n (l.setIfInBounds i true) a w → K a w) → if Region.wanted o (yielded ops a.tmps) = true then Oper.wp P o a w K Q else K (a.put o.dst undef) w) (hr : Region.ready md ops l = [i] := by kernel_rfl) (ho : ops[i]? = some o := by rfl) (hb : b i = true := by rfl) : wpB P md ops Q S b (n + 1) l a w :=
  wpB_last i hr ho hb h
theorem wp_region_B (S : World → Prop) (b : Nat → Bool) {id : Nat} {a : Act} {w : World} (hm : P.follows .mixedOrders = true) (h : wpB P .any ops Q S b ops.size (Array.replicate ops.size false) a w.drew) : (Code.region id ops true).wp P Q a w :=
  wp_region_any hm (wpB_any _ _ _ _ h)
end
end Go.Ev
